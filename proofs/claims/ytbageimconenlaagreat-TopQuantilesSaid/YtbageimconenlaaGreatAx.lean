/- What the sign of life reaches: a list of no bucket and of one bucket. -/
import Derived.Test.YtbageimconenlaaGreatAw
import Derived.LoopN
namespace Go.Proofs.YtbageimconenlaaGreat
open Go.RowKit
set_option linter.unusedVariables false
set_option linter.unusedSimpArgs false
set_option maxRecDepth 100000 in
set_option maxHeartbeats 2000000 in
theorem built70c (a b c d e f : Value) : Tryz.prog.built 70 [(0, .agg #[a, b]), (1, .agg #[c, d]), (2, .agg #[e, f])] = some #[a, b, c, d, e, f] := by kernel_rfl
set_option maxRecDepth 100000 in
set_option maxHeartbeats 2000000 in
theorem wpList_build70c {a1 b1 c1 d1 e1 f1 : Value} {ops : Array Oper} {rest : List Oper} {o : Oper} {a : Act} {w : World} {Q : Exit → Act → World → Prop} (hg : o.guard = none) (x y z : Operand) (ho : o.op = .build 70 #[(0, x), (1, y), (2, z)]) (hx : a.eval x = .agg #[a1, b1]) (hy : a.eval y = .agg #[c1, d1]) (hz : a.eval z = .agg #[e1, f1]) (h : wpList Tryz.prog ops Q rest (a.put o.dst (.agg #[a1, b1, c1, d1, e1, f1])) w) : wpList Tryz.prog ops Q (o :: rest) a w := by
  have hb : Tryz.prog.built 70 ((#[(0, x), (1, y), (2, z)] : Array (Nat × Operand)).map fun (i, x) => (i, a.eval x)).toList = some #[a1, b1, c1, d1, e1, f1] := by
    have e : ((#[(0, x), (1, y), (2, z)] : Array (Nat × Operand)).map fun (i, x) => (i, a.eval x)).toList = [(0, a.eval x), (1, a.eval y), (2, a.eval z)] := by simp
    rw [e, hx, hy, hz]; exact built70c a1 b1 c1 d1 e1 f1
  exact wpList_build hg 70 #[(0, x), (1, y), (2, z)] ho (by rw [hb]; rfl) (by rw [hb]; exact h)
set_option maxRecDepth 100000 in
set_option maxHeartbeats 2000000 in
theorem wpList_loadGA {P : Program} {ops : Array Oper} {rest : List Oper} {o : Oper} {a : Act} {w : World} {Q : Exit → Act → World → Prop} (hg : Region.wanted o (yielded ops a.tmps) = true) (ty : TypeId) (x : Operand) (ho : o.op = .load ty x) (g : Nat) (t : TypeId) (C : Array Value) (hx : a.eval x = .pointer (some ⟨g, 0, none⟩)) (hB : Blk w g t C) {d : TypeDesc} (hu : P.underlying ty = some d) (hd : d.isRow = true) (hi : (P.info? ty).map (·.size) = some C.size) (h : wpList P ops Q rest (a.put o.dst (.agg C)) w) : wpList P ops Q (o :: rest) a w :=
  wpList_step fun K hK => by
    rw [if_pos hg]
    refine wp_load_mid ty x ho g 0 hx C.toList d (fun j v hv => by rw [Nat.zero_add]; exact hB.cell j |>.trans (by simpa using hv)) hu hd (by simpa using hi) ?_
    rw [Array.toArray_toList]
    exact hK _ _ h
set_option maxRecDepth 100000 in
set_option maxHeartbeats 2000000 in
theorem size31a : (Tryz.prog.info? 31).map (·.size) = some 5 := by kernel_rfl
set_option maxRecDepth 100000 in
set_option maxHeartbeats 2000000 in
theorem aw_total0 (w : World) : Calls Tryz.prog 102 #[.slice none 0 0] w (RetB (.int .i64 0) w) := by
  unfold RetB
  go_enter Tryz.func102, Tryz.ntmps102
  go_wp2
  refine wp_loop_rounds 1 ?_
  rw [rounds_succ]
  go_wp2
  go_ret
  exact ⟨rfl, by (repeat (first | with_reducible exact Below.refl _ _ | with_reducible refine Bl.alloc' ?_ _ | with_reducible refine Below.drew ?_ | with_reducible refine Bl.set' ?_ (by simp; try omega) _))⟩
set_option maxRecDepth 100000 in
set_option maxHeartbeats 2000000 in
theorem aw_total1 {A : Option Addr} {k B : Nat} {w : World} (h : SlK w B A 1 2 [.int .i64 0, .int .i64 0]) (hB : B ≤ w.heap.size) : Calls Tryz.prog 102 #[.slice A 1 k] w (RetB (.int .i64 1) w) := by
  unfold RetB
  obtain ⟨b, o, rfl, hb, hc⟩ := h.at_ (show 0 < 1 by omega) (by omega)
  have c0 : w.cell? ⟨b, o, none⟩ = some (.int .i64 0) := by simpa using hc 0 (by omega)
  have c1 : w.cell? ⟨b, o + 1, none⟩ = some (.int .i64 0) := by simpa using hc 1 (by omega)
  have hlt : b < w.heap.size := by omega
  clear hc h
  go_enter Tryz.func102, Tryz.ntmps102
  go_wp2
  refine wp_loop_rounds 2 ?_
  rw [rounds_succ]
  go_wp2
  rw [rounds_succ]
  go_wp2
  go_ret
  exact ⟨rfl, by (repeat (first | with_reducible exact Below.refl _ _ | with_reducible refine Bl.alloc' ?_ _ | with_reducible refine Below.drew ?_ | with_reducible refine Bl.set' ?_ (by simp; try omega) _))⟩
set_option maxRecDepth 100000 in
set_option maxHeartbeats 2000000 in
theorem aw_may0 (w : World) : Calls Tryz.prog 176 #[.slice none 0 0, .int .i64 0] w (RetB (.bool true) w) := by
  unfold RetB
  go_enter Tryz.func176, Tryz.ntmps176
  go_wp2
  go_ret
  exact ⟨rfl, by (repeat (first | with_reducible exact Below.refl _ _ | with_reducible refine Bl.alloc' ?_ _ | with_reducible refine Below.drew ?_ | with_reducible refine Bl.set' ?_ (by simp; try omega) _))⟩
set_option maxRecDepth 100000 in
set_option maxHeartbeats 2000000 in
theorem aw_bval0 (w : World) : Calls Tryz.prog 174 #[.slice none 0 0, .int .i64 1] w (RetB (.bool true) w) := by
  unfold RetB
  go_enter Tryz.func174, Tryz.ntmps174
  go_wp2
  refine wp_loop_rounds 1 ?_
  rw [rounds_succ]
  go_wp2
  go_ret
  exact ⟨rfl, by (repeat (first | with_reducible exact Below.refl _ _ | with_reducible refine Bl.alloc' ?_ _ | with_reducible refine Below.drew ?_ | with_reducible refine Bl.set' ?_ (by simp; try omega) _))⟩
set_option maxRecDepth 100000 in
set_option maxHeartbeats 2000000 in
theorem aw_whole (w : World) : Calls Tryz.prog 140 #[.int .i64 1, .int .i64 1] w (RetB (.tuple #[.agg #[.int .i64 1, .int .i64 1, .int .i64 1, .int .i64 1, .int .i64 1, .int .i64 1], .bool true]) w) := by
  unfold RetB
  have C67 := hide (fun (x : Int) (w1 : World) => aw_of x w1)
  unfold RetB at C67
  have e1 : bits BinOp.and IntKind.i64 1 1 = 1 := by kernel_rfl
  have e2 : bits BinOp.xor IntKind.i64 1 1 = 0 := by kernel_rfl
  have R0 := hide (Blk.new w 70 #[.int .i64 0, .int .i64 0, .int .i64 0, .int .i64 0, .int .i64 0, .int .i64 0])
  have B0 := hide (show Below w.heap.size w (w.alloc (.cells #[.int .i64 0, .int .i64 0, .int .i64 0, .int .i64 0, .int .i64 0, .int .i64 0] 70)) from Bl.alloc' (Below.refl _ w) _)
  go_enter Tryz.func140, Tryz.ntmps140
  go_wp2_with (fail)
  generalize (w.alloc (.cells #[.int .i64 0, .int .i64 0, .int .i64 0, .int .i64 0, .int .i64 0, .int .i64 0] 70)) = w0 at *
  refine (C67.out _ _).mono ?_
  rintro e w1 ⟨rfl, hb⟩
  have R1 := hide (R0.out.below hb R0.out.lt)
  have B1 := hide (Bl.call' B0.out hb)
  clear hb R0 B0
  go_wp2_with (fail)
  refine (C67.out _ _).mono ?_
  rintro e w2 ⟨rfl, hb⟩
  have R2 := hide (R1.out.below hb R1.out.lt)
  have B2 := hide (Bl.call' B1.out hb)
  clear hb R1 B1
  go_wp2_with (fail)
  refine (C67.out _ _).mono ?_
  rintro e w3 ⟨rfl, hb⟩
  have R3 := hide (R2.out.below hb R2.out.lt)
  have B3 := hide (Bl.call' B2.out hb)
  clear hb R2 B2
  go_wp2_with (first | (refine wpList_build70c rfl (.tmp 20) (.tmp 22) (.tmp 24) rfl rfl rfl rfl ?_) | (refine wpList_store_row rfl 70 (.tmp 4) (.tmp 25) rfl w.heap.size #[.int .i64 1, .int .i64 1, .int .i64 1, .int .i64 1, .int .i64 1, .int .i64 1] rfl rfl 70 #[.int .i64 0, .int .i64 0, .int .i64 0, .int .i64 0, .int .i64 0, .int .i64 0] R3.out size70 rfl (by simp [Value.oneCell']) ?_))
  refine bodyPost_ret (resB2 (t := 70) (C := #[.int .i64 1, .int .i64 1, .int .i64 1, .int .i64 1, .int .i64 1, .int .i64 1]) rfl _ rfl (R3.out.row _) Tryz.underlying70 rfl size70) rfl ?_
  exact ⟨by kernel_rfl, below_row B3.out (Nat.le_refl _) _⟩
set_option maxRecDepth 100000 in
set_option maxHeartbeats 2000000 in
theorem aw_cval0 (w : World) : Calls Tryz.prog 101 #[.agg #[.int .i64 5, .int .i64 1, .int .i64 5, .int .i64 0, .slice none 0 0]] w (RetB (.int .i64 0) w) := by
  unfold RetB
  have C86 := hide (fun (w1 : World) (hb : Below w.heap.size w w1) => aw_good w1)
  have C174 := hide (fun (w1 : World) (hb : Below w.heap.size w w1) => aw_bval0 w1)
  have C102 := hide (fun (w1 : World) (hb : Below w.heap.size w w1) => aw_total0 w1)
  have C138 := hide (fun (w1 : World) (hb : Below w.heap.size w w1) => aw_live w1)
  unfold RetB at C86 C174 C102 C138
  have qX : Blk (w.alloc (.cells #[.int .i64 5, .int .i64 1, .int .i64 5, .int .i64 0, .slice none 0 0] 31)) w.heap.size 31 #[.int .i64 5, .int .i64 1, .int .i64 5, .int .i64 0, .slice none 0 0] := Blk.new _ _ _
  have qB : Below w.heap.size w (w.alloc (.cells #[.int .i64 5, .int .i64 1, .int .i64 5, .int .i64 0, .slice none 0 0] 31)) := Bl.alloc' (Below.refl _ w) _
  have L0 := qX.lt
  go_enter Tryz.func101, Tryz.ntmps101
  go_upto_region 1 with (fail)
  generalize (w.alloc (.cells #[.int .i64 5, .int .i64 1, .int .i64 5, .int .i64 0, .slice none 0 0] 31)) = w0 at *
  have B0 := hide qB
  have z00 : w0.cell? ⟨w.heap.size, 0, none⟩ = some (.int .i64 5) := qX.cell 0
  have z01 : w0.cell? ⟨w.heap.size, 1, none⟩ = some (.int .i64 1) := qX.cell 1
  have z02 : w0.cell? ⟨w.heap.size, 2, none⟩ = some (.int .i64 5) := qX.cell 2
  have z03 : w0.cell? ⟨w.heap.size, 3, none⟩ = some (.int .i64 0) := qX.cell 3
  have z04 : w0.cell? ⟨w.heap.size, 4, none⟩ = some (.slice none 0 0) := qX.cell 4
  clear qB qX
  go_region_held3 (fun w' => w'.cell? ⟨w.heap.size, 0, none⟩ = some (.int .i64 5) ∧ w'.cell? ⟨w.heap.size, 1, none⟩ = some (.int .i64 1) ∧ w'.cell? ⟨w.heap.size, 2, none⟩ = some (.int .i64 5) ∧ w'.cell? ⟨w.heap.size, 3, none⟩ = some (.int .i64 0) ∧ w'.cell? ⟨w.heap.size, 4, none⟩ = some (.slice none 0 0)) (first | exact ⟨z00, z01, z02, z03, z04⟩ | exact ⟨z10, z11, z12, z13, z14⟩ | exact ⟨z20, z21, z22, z23, z24⟩ | exact ⟨z30, z31, z32, z33, z34⟩) (first | (go_at_call 86; refine (C86.out _ ?_).mono ?_; (· repeat (first | with_reducible exact B0.out | with_reducible refine Below.drew ?_ | with_reducible refine below_drewN ?_ _)); rintro e w1 ⟨rfl, hb1⟩; have hk1 : Below w0.heap.size w0 w1 := ⟨hb1.os, hb1.tape, hb1.output, hb1.size, hb1.block⟩; have B1 := hide (Bl.call' B0.out hk1); have L1 := Nat.lt_of_lt_of_le L0 hk1.size; have z10 := (below_cell hk1 L0).trans z00; have z11 := (below_cell hk1 L0).trans z01; have z12 := (below_cell hk1 L0).trans z02; have z13 := (below_cell hk1 L0).trans z03; have z14 := (below_cell hk1 L0).trans z04; clear hb1 hk1) | (go_at_call 102; refine (C102.out _ ?_).mono ?_; (· repeat (first | with_reducible exact B2.out | with_reducible refine Below.drew ?_ | with_reducible refine below_drewN ?_ _)); rintro e w3 ⟨rfl, hb3⟩; have hk3 : Below w2.heap.size w2 w3 := ⟨hb3.os, hb3.tape, hb3.output, hb3.size, hb3.block⟩; have B3 := hide (Bl.call' B2.out hk3); have L3 := Nat.lt_of_lt_of_le L2 hk3.size; have z30 := (below_cell hk3 L2).trans z20; have z31 := (below_cell hk3 L2).trans z21; have z32 := (below_cell hk3 L2).trans z22; have z33 := (below_cell hk3 L2).trans z23; have z34 := (below_cell hk3 L2).trans z24; clear hb3 hk3) | (go_at_call 174; refine (C174.out _ ?_).mono ?_; (· repeat (first | with_reducible exact B1.out | with_reducible refine Below.drew ?_ | with_reducible refine below_drewN ?_ _)); rintro e w2 ⟨rfl, hb2⟩; have hk2 : Below w1.heap.size w1 w2 := ⟨hb2.os, hb2.tape, hb2.output, hb2.size, hb2.block⟩; have B2 := hide (Bl.call' B1.out hk2); have L2 := Nat.lt_of_lt_of_le L1 hk2.size; have z20 := (below_cell hk2 L1).trans z10; have z21 := (below_cell hk2 L1).trans z11; have z22 := (below_cell hk2 L1).trans z12; have z23 := (below_cell hk2 L1).trans z13; have z24 := (below_cell hk2 L1).trans z14; clear hb2 hk2))
  go_wp2
  refine wp_loop_rounds 1 ?_
  rw [rounds_succ]
  go_wp2
  go_ret
  exact ⟨rfl, B3.out⟩
set_option maxRecDepth 100000 in
set_option maxHeartbeats 2000000 in
theorem aw_bval1 {A : Option Addr} {k B : Nat} {w : World} (h : SlK w B A 1 2 [.int .i64 0, .int .i64 0]) (hB : B ≤ w.heap.size) : Calls Tryz.prog 174 #[.slice A 1 k, .int .i64 1] w (RetB (.bool true) w) := by
  unfold RetB
  obtain ⟨b, o, rfl, hb, hc⟩ := h.at_ (show 0 < 1 by omega) (by omega)
  have c0 : w.cell? ⟨b, o, none⟩ = some (.int .i64 0) := by simpa using hc 0 (by omega)
  have c1 : w.cell? ⟨b, o + 1, none⟩ = some (.int .i64 0) := by simpa using hc 1 (by omega)
  have hlt : b < w.heap.size := by omega
  clear hc h
  go_enter Tryz.func174, Tryz.ntmps174
  go_wp2
  refine wp_loop_rounds 2 ?_
  rw [rounds_succ]
  go_wp2
  go_region
  go_wp2
  rw [rounds_succ]
  go_wp2
  refine wp_loop_rounds 2 ?_
  rw [rounds_succ]
  go_wp2
  rw [rounds_succ]
  go_wp2
  go_ret
  exact ⟨rfl, by (repeat (first | with_reducible exact Below.refl _ _ | with_reducible refine Bl.alloc' ?_ _ | with_reducible refine Below.drew ?_ | with_reducible refine Bl.set' ?_ (by simp; try omega) _))⟩
set_option maxRecDepth 100000 in
set_option maxHeartbeats 2000000 in
theorem info262a : (Tryz.prog.info? 262).map (fun i => (i.zero, i.size, i.bytes)) = some (some (.agg #[.int .i64 0, .int .i64 0]), 2, 16) := by kernel_rfl
set_option maxRecDepth 100000 in
set_option maxHeartbeats 2000000 in
theorem aw_insert1 {g base : Nat} {w : World} (hO : OwnK w base 262 2 (.slice (some ⟨g, 0, none⟩) 0 0) 0 []) (hb : base ≤ w.heap.size) : Calls Tryz.prog 177 #[.slice (some ⟨g, 0, none⟩) 0 0, .int .i64 1, .int .i64 0] w (fun e w' => ∃ (A : Option Addr) (k : Nat), e = .returned (.slice A 1 k) ∧ OwnK w' base 262 2 (.slice A 1 k) 1 [.int .i64 0, .int .i64 0] ∧ Below base w w') := by
  obtain ⟨i0, hi0, hz0, hz1, hz2⟩ := info_parts info262a
  have HO := hide hO
  have B0 := hide (show Below base w w from Below.refl _ w)
  go_enter Tryz.func177, Tryz.ntmps177
  go_wp2_with (at_builtin; refine wpList_appendK _ rfl (.tmp 10) (.tmp 13) 29 rfl base 262 i0 (.agg #[.int .i64 0, .int .i64 0]) 2 16 Tryz.underlying29 hi0 hz0 hz1 hz2 rfl (by decide) (.slice (some ⟨g, 0, none⟩) 0 0) 0 [] rfl (HO.out.alloc _) _ (some ⟨w.heap.size, 0, none⟩) 1 1 [.int .i64 0, .int .i64 0] rfl (SlK.one (l := [.int .i64 0, .int .i64 0]) rfl rfl) (by intro u hu; simp at hu; subst hu; rfl) 1 rfl (by simp only [maxLen]; omega) (by omega) (by simp; omega) ?_; intro A1 k1 w1 hown1 hg1)
  have B1 := hide (show Below base w w1 from (B0.out.alloc hb _).grown hg1 (by simp; omega) (fun q hq => (HO.out.lt q hq).1))
  have O1 := hide hown1
  obtain ⟨b, o, rfl, hbb, hc⟩ := hown1.sl.at_ (show 0 < 1 by omega) (by omega)
  have c0 : w1.cell? ⟨b, o, none⟩ = some (.int .i64 0) := by simpa using hc 0 (by omega)
  have c1 : w1.cell? ⟨b, o + 1, none⟩ = some (.int .i64 0) := by simpa using hc 1 (by omega)
  clear hown1 hg1 hc hO hb HO B0
  refine wp_loop_rounds 1 ?_
  rw [rounds_succ]
  go_wp2
  refine wp_loop_rounds 2 ?_
  rw [rounds_succ]
  go_wp2
  rw [rounds_succ]
  go_wp2
  go_ret
  exact ⟨_, _, rfl, O1.out, B1.out⟩
set_option maxRecDepth 100000 in
set_option maxHeartbeats 2000000 in
theorem aw_insert {w : World} : Calls Tryz.prog 103 #[.slice none 0 0, .int .i64 1, .int .i64 0] w (fun e w' => ∃ (A : Option Addr) (k : Nat), e = .returned (.slice A 1 k) ∧ OwnK w' w.heap.size 262 2 (.slice A 1 k) 1 [.int .i64 0, .int .i64 0] ∧ Below w.heap.size w w') := by
  have C174 := hide (fun (w1 : World) => aw_bval0 w1)
  have C176 := hide (fun (w1 : World) => aw_may0 w1)
  have C102 := hide (fun (w1 : World) => aw_total0 w1)
  unfold RetB at C174 C176 C102
  have B0 := hide (show Below w.heap.size w w from Below.refl _ w)
  go_enter Tryz.func103, Tryz.ntmps103
  go_wp2_with (fail)
  refine (C174.out _).mono ?_
  rintro e w1 ⟨rfl, hb⟩
  have B1 := hide (Bl.call' B0.out hb)
  clear hb B0
  go_wp2_with (fail)
  refine (C176.out _).mono ?_
  rintro e w2 ⟨rfl, hb⟩
  have B2 := hide (Bl.call' B1.out hb)
  clear hb B1
  go_wp2_with (fail)
  refine (C102.out _).mono ?_
  rintro e w3 ⟨rfl, hb⟩
  have B3 := hide (Bl.call' B2.out hb)
  have hs3 := B3.out.size
  clear hb B2
  go_wp2_with (fail)
  refine (aw_insert1 (base := w.heap.size) (g := w3.heap.size) ((OwnK.empty (k := 2) (e := 262) rfl hs3)) (by simp; omega)).mono ?_
  rintro e w4 ⟨A, k, rfl, hO, hb⟩
  have O4 := hide hO
  have B4 := hide ((B3.out.alloc hs3 _).trans hb)
  clear hb B3 hO
  go_wp2
  go_ret
  exact ⟨_, _, rfl, O4.out, B4.out⟩
set_option maxRecDepth 100000 in
set_option maxHeartbeats 2000000 in
theorem aw_cval1 {A : Option Addr} {k B : Nat} {w : World} (h : SlK w B A 1 2 [.int .i64 0, .int .i64 0]) (hB : B ≤ w.heap.size) : Calls Tryz.prog 101 #[.agg #[.int .i64 5, .int .i64 1, .int .i64 5, .int .i64 0, .slice A 1 k]] w (RetB (.int .i64 0) w) := by
  unfold RetB
  have HH := hide h
  have C86 := hide (fun (w1 : World) (hb : Below w.heap.size w w1) => aw_good w1)
  have C174 := hide (fun (w1 : World) (hb : Below w.heap.size w w1) => aw_bval1 (k := k) (h.below (hb.mono hB)) (show B ≤ w1.heap.size by have := hb.size; omega))
  have C102 := hide (fun (w1 : World) (hb : Below w.heap.size w w1) => aw_total1 (k := k) (h.below (hb.mono hB)) (show B ≤ w1.heap.size by have := hb.size; omega))
  have C138 := hide (fun (w1 : World) (hb : Below w.heap.size w w1) => aw_live w1)
  clear h
  unfold RetB at C86 C174 C102 C138
  have qX : Blk (w.alloc (.cells #[.int .i64 5, .int .i64 1, .int .i64 5, .int .i64 0, .slice A 1 k] 31)) w.heap.size 31 #[.int .i64 5, .int .i64 1, .int .i64 5, .int .i64 0, .slice A 1 k] := Blk.new _ _ _
  have qB : Below w.heap.size w (w.alloc (.cells #[.int .i64 5, .int .i64 1, .int .i64 5, .int .i64 0, .slice A 1 k] 31)) := Bl.alloc' (Below.refl _ w) _
  have L0 := qX.lt
  go_enter Tryz.func101, Tryz.ntmps101
  go_upto_region 1 with (fail)
  generalize (w.alloc (.cells #[.int .i64 5, .int .i64 1, .int .i64 5, .int .i64 0, .slice A 1 k] 31)) = w0 at *
  have B0 := hide qB
  have z00 : w0.cell? ⟨w.heap.size, 0, none⟩ = some (.int .i64 5) := qX.cell 0
  have z01 : w0.cell? ⟨w.heap.size, 1, none⟩ = some (.int .i64 1) := qX.cell 1
  have z02 : w0.cell? ⟨w.heap.size, 2, none⟩ = some (.int .i64 5) := qX.cell 2
  have z03 : w0.cell? ⟨w.heap.size, 3, none⟩ = some (.int .i64 0) := qX.cell 3
  have z04 : w0.cell? ⟨w.heap.size, 4, none⟩ = some (.slice A 1 k) := qX.cell 4
  clear qB qX
  go_region_held3 (fun w' => w'.cell? ⟨w.heap.size, 0, none⟩ = some (.int .i64 5) ∧ w'.cell? ⟨w.heap.size, 1, none⟩ = some (.int .i64 1) ∧ w'.cell? ⟨w.heap.size, 2, none⟩ = some (.int .i64 5) ∧ w'.cell? ⟨w.heap.size, 3, none⟩ = some (.int .i64 0) ∧ w'.cell? ⟨w.heap.size, 4, none⟩ = some (.slice A 1 k)) (first | exact ⟨z00, z01, z02, z03, z04⟩ | exact ⟨z10, z11, z12, z13, z14⟩ | exact ⟨z20, z21, z22, z23, z24⟩ | exact ⟨z30, z31, z32, z33, z34⟩) (first | (go_at_call 86; refine (C86.out _ ?_).mono ?_; (· repeat (first | with_reducible exact B0.out | with_reducible refine Below.drew ?_ | with_reducible refine below_drewN ?_ _)); rintro e w1 ⟨rfl, hb1⟩; have hk1 : Below w0.heap.size w0 w1 := ⟨hb1.os, hb1.tape, hb1.output, hb1.size, hb1.block⟩; have B1 := hide (Bl.call' B0.out hk1); have L1 := Nat.lt_of_lt_of_le L0 hk1.size; have z10 := (below_cell hk1 L0).trans z00; have z11 := (below_cell hk1 L0).trans z01; have z12 := (below_cell hk1 L0).trans z02; have z13 := (below_cell hk1 L0).trans z03; have z14 := (below_cell hk1 L0).trans z04; clear hb1 hk1) | (go_at_call 102; refine (C102.out _ ?_).mono ?_; (· repeat (first | with_reducible exact B2.out | with_reducible refine Below.drew ?_ | with_reducible refine below_drewN ?_ _)); rintro e w3 ⟨rfl, hb3⟩; have hk3 : Below w2.heap.size w2 w3 := ⟨hb3.os, hb3.tape, hb3.output, hb3.size, hb3.block⟩; have B3 := hide (Bl.call' B2.out hk3); have L3 := Nat.lt_of_lt_of_le L2 hk3.size; have z30 := (below_cell hk3 L2).trans z20; have z31 := (below_cell hk3 L2).trans z21; have z32 := (below_cell hk3 L2).trans z22; have z33 := (below_cell hk3 L2).trans z23; have z34 := (below_cell hk3 L2).trans z24; clear hb3 hk3) | (go_at_call 174; refine (C174.out _ ?_).mono ?_; (· repeat (first | with_reducible exact B1.out | with_reducible refine Below.drew ?_ | with_reducible refine below_drewN ?_ _)); rintro e w2 ⟨rfl, hb2⟩; have hk2 : Below w1.heap.size w1 w2 := ⟨hb2.os, hb2.tape, hb2.output, hb2.size, hb2.block⟩; have B2 := hide (Bl.call' B1.out hk2); have L2 := Nat.lt_of_lt_of_le L1 hk2.size; have z20 := (below_cell hk2 L1).trans z10; have z21 := (below_cell hk2 L1).trans z11; have z22 := (below_cell hk2 L1).trans z12; have z23 := (below_cell hk2 L1).trans z13; have z24 := (below_cell hk2 L1).trans z14; clear hb2 hk2))
  obtain ⟨b, o, rfl, hbb, hc⟩ := (HH.out.below (B3.out.mono hB)).at_ (show 0 < 1 by omega) (by omega)
  have c0 : w3.cell? ⟨b, o, none⟩ = some (.int .i64 0) := by simpa using hc 0 (by omega)
  have c1 : w3.cell? ⟨b, o + 1, none⟩ = some (.int .i64 0) := by simpa using hc 1 (by omega)
  have hlt : b < w3.heap.size := by have := B3.out.size; omega
  have hwl : w.heap.size < w3.heap.size := L3
  clear hc
  go_wp2
  refine wp_loop_rounds 2 ?_
  rw [rounds_succ]
  go_wp2
  rw [rounds_succ]
  go_wp2
  go_ret
  exact ⟨rfl, Bl.alloc' B3.out _⟩
set_option maxRecDepth 100000 in
set_option maxHeartbeats 2000000 in
theorem aw_query1 {A : Option Addr} {k B : Nat} {w : World} (h : SlK w B A 1 2 [.int .i64 0, .int .i64 0]) (hB : B ≤ w.heap.size) : Calls Tryz.prog 137 #[.slice A 1 k] w (RetB (.agg #[.int .i64 1, .int .i64 1, .int .i64 1, .int .i64 1, .int .i64 1, .int .i64 1]) w) := by
  unfold RetB
  have HH := hide h
  have C102 := hide (fun (w1 : World) (hb : Below w.heap.size w w1) => aw_total1 (k := k) (h.below (hb.mono hB)) (show B ≤ w1.heap.size by have := hb.size; omega))
  have C140 := hide (fun (w1 : World) => aw_whole w1)
  unfold RetB at C102 C140
  have R0 := hide (Blk.new w 70 #[.int .i64 0, .int .i64 0, .int .i64 0, .int .i64 0, .int .i64 0, .int .i64 0])
  have B0 := hide (show Below w.heap.size w (w.alloc (.cells #[.int .i64 0, .int .i64 0, .int .i64 0, .int .i64 0, .int .i64 0, .int .i64 0] 70)) from Bl.alloc' (Below.refl _ w) _)
  go_enter Tryz.func137, Tryz.ntmps137
  go_wp2_with (fail)
  generalize (w.alloc (.cells #[.int .i64 0, .int .i64 0, .int .i64 0, .int .i64 0, .int .i64 0, .int .i64 0] 70)) = w0 at *
  refine (C102.out _ B0.out).mono ?_
  rintro e w1 ⟨rfl, hb⟩
  have R1 := hide (R0.out.below hb R0.out.lt)
  have B1 := hide (Bl.call' B0.out hb)
  clear hb R0 B0
  obtain ⟨b, o, rfl, hbb, hc⟩ := (HH.out.below (B1.out.mono hB)).at_ (show 0 < 1 by omega) (by omega)
  have c0 : w1.cell? ⟨b, o, none⟩ = some (.int .i64 0) := by simpa using hc 0 (by omega)
  have c1 : w1.cell? ⟨b, o + 1, none⟩ = some (.int .i64 0) := by simpa using hc 1 (by omega)
  have hlt : b < w1.heap.size := by have := B1.out.size; omega
  clear hc
  go_wp2_with (fail)
  refine (aw_level _).mono ?_
  rintro e w2 ⟨rfl, hb⟩
  have R2 := hide (R1.out.below hb R1.out.lt)
  have B2 := hide (Bl.call' B1.out hb)
  have c1 := (below_cell hb hlt).trans c1
  clear hb R1 B1 c0
  go_wp2_with (fail)
  refine (C140.out _).mono ?_
  rintro e w3 ⟨rfl, hb⟩
  have R3 := hide (R2.out.below hb R2.out.lt)
  have B3 := hide (Bl.call' B2.out hb)
  have hs3 := R3.out.lt
  clear hb R2 B2 c1
  have Y4 := hide ((Blk.new w3 70 #[.int .i64 0, .int .i64 0, .int .i64 0, .int .i64 0, .int .i64 0, .int .i64 0]).row #[.int .i64 1, .int .i64 1, .int .i64 1, .int .i64 1, .int .i64 1, .int .i64 1])
  have R4 := hide ((R3.out.alloc (.cells #[.int .i64 0, .int .i64 0, .int .i64 0, .int .i64 0, .int .i64 0, .int .i64 0] 70)).row_far (g' := w3.heap.size) (by omega) #[.int .i64 1, .int .i64 1, .int .i64 1, .int .i64 1, .int .i64 1, .int .i64 1])
  have B4 := hide (below_row (g := w3.heap.size) (Bl.alloc' B3.out (.cells #[.int .i64 0, .int .i64 0, .int .i64 0, .int .i64 0, .int .i64 0, .int .i64 0] 70)) B3.out.size #[.int .i64 1, .int .i64 1, .int .i64 1, .int .i64 1, .int .i64 1, .int .i64 1])
  go_wp2_with (first | (refine wpList_store_row rfl 70 (.tmp 5) (.tmp 32) rfl w3.heap.size #[.int .i64 1, .int .i64 1, .int .i64 1, .int .i64 1, .int .i64 1, .int .i64 1] rfl rfl 70 #[.int .i64 0, .int .i64 0, .int .i64 0, .int .i64 0, .int .i64 0, .int .i64 0] (Blk.new _ _ _) size70 rfl (by simp [Value.oneCell']) ?_) | (refine wpList_loadGA (by rfl) 70 (.tmp 5) rfl w3.heap.size 70 _ rfl Y4.out Tryz.underlying70 rfl size70 ?_) | (refine wpList_store_row rfl 70 (.tmp 2) (.tmp 34) rfl w.heap.size #[.int .i64 1, .int .i64 1, .int .i64 1, .int .i64 1, .int .i64 1, .int .i64 1] rfl rfl 70 #[.int .i64 0, .int .i64 0, .int .i64 0, .int .i64 0, .int .i64 0, .int .i64 0] R4.out size70 rfl (by simp [Value.oneCell']) ?_))
  refine bodyPost_ret (resB1 (t := 70) (C := #[.int .i64 1, .int .i64 1, .int .i64 1, .int .i64 1, .int .i64 1, .int .i64 1]) rfl _ rfl (R4.out.row _) Tryz.underlying70 rfl size70) rfl ?_
  exact ⟨rfl, below_row B4.out (Nat.le_refl _) _⟩
set_option maxRecDepth 100000 in
set_option maxHeartbeats 2000000 in
theorem aw_cnew (w : World) : Calls Tryz.prog 29 #[.int .i64 5, .int .i64 1, .int .i64 5, .int .i64 0] w (RetB (.tuple #[.agg #[.int .i64 5, .int .i64 1, .int .i64 5, .int .i64 0, .slice none 0 0], .int .i64 0]) w) := by
  unfold RetB
  go_enter Tryz.func29, Tryz.ntmps29
  go_wp2
  refine bodyPost_ret (resB2 (t := 31) (C := #[.int .i64 5, .int .i64 1, .int .i64 5, .int .i64 0, .slice none 0 0]) rfl _ rfl (by refine Blk.castA (C := ?c) ?h ?e; rotate_left; (· (repeat (first | with_reducible exact Blk.new _ _ _ | (with_reducible refine Blk.new_at ?_ _ _; (simp; done)) | with_reducible refine Blk.alloc ?_ _ | with_reducible refine Blk.drew ?_ | with_reducible refine Blk.set_ ?_ _ _ | with_reducible refine Blk.far ?_ (by simp; try omega) _))); (· rfl)) Tryz.underlying31 rfl size31a) rfl ?_
  exact ⟨rfl, by (repeat (first | with_reducible exact Below.refl _ _ | with_reducible refine Bl.alloc' ?_ _ | with_reducible refine Below.drew ?_ | with_reducible refine Bl.set' ?_ (by simp; try omega) _))⟩
set_option maxRecDepth 100000 in
set_option maxHeartbeats 2000000 in
theorem aw_cadd (w : World) : Calls Tryz.prog 42 #[.agg #[.int .i64 5, .int .i64 1, .int .i64 5, .int .i64 0, .slice none 0 0]] w (fun e w' => ∃ (A : Option Addr) (k : Nat), e = .returned (.tuple #[.agg #[.int .i64 5, .int .i64 1, .int .i64 5, .int .i64 0, .slice A 1 k], .int .i64 0]) ∧ OwnK w' w.heap.size 262 2 (.slice A 1 k) 1 [.int .i64 0, .int .i64 0] ∧ Below w.heap.size w w') := by
  have C101 := hide (fun (w1 : World) => aw_cval0 w1)
  have C102 := hide (fun (w1 : World) (hb : Below w.heap.size w w1) => aw_total0 w1)
  have C103 := hide (fun (w1 : World) => aw_insert (w := w1))
  unfold RetB at C101 C102
  have qX : Blk ((w.alloc (.cells #[.int .i64 5, .int .i64 1, .int .i64 5, .int .i64 0, .slice none 0 0] 31)).alloc (.cells #[.int .i64 0, .int .i64 0, .int .i64 0, .int .i64 0, .slice none 0 0] 31)) w.heap.size 31 #[.int .i64 5, .int .i64 1, .int .i64 5, .int .i64 0, .slice none 0 0] := (Blk.new _ _ _).alloc _
  have qR : Blk ((w.alloc (.cells #[.int .i64 5, .int .i64 1, .int .i64 5, .int .i64 0, .slice none 0 0] 31)).alloc (.cells #[.int .i64 0, .int .i64 0, .int .i64 0, .int .i64 0, .slice none 0 0] 31)) (w.heap.size + 1) 31 #[.int .i64 0, .int .i64 0, .int .i64 0, .int .i64 0, .slice none 0 0] := Blk.new_at (by simp) _ _
  have qB : Below w.heap.size w ((w.alloc (.cells #[.int .i64 5, .int .i64 1, .int .i64 5, .int .i64 0, .slice none 0 0] 31)).alloc (.cells #[.int .i64 0, .int .i64 0, .int .i64 0, .int .i64 0, .slice none 0 0] 31)) := Bl.alloc' (Bl.alloc' (Below.refl _ w) _) _
  go_enter Tryz.func42, Tryz.ntmps42
  go_upto_region 1 with (fail)
  generalize ((w.alloc (.cells #[.int .i64 5, .int .i64 1, .int .i64 5, .int .i64 0, .slice none 0 0] 31)).alloc (.cells #[.int .i64 0, .int .i64 0, .int .i64 0, .int .i64 0, .slice none 0 0] 31)) = w0 at *
  have X0 := hide qX
  have R0 := hide qR
  have B0 := hide qB
  clear qX qR qB
  go_wp2_with (refine wpList_loadGA (by rfl) 31 (.tmp 1) rfl w.heap.size 31 _ rfl X0.out Tryz.underlying31 rfl size31a ?_)
  refine (C101.out w0).mono ?_
  rintro e w1 ⟨rfl, hb⟩
  have X1 := hide (X0.out.below hb X0.out.lt)
  have R1 := hide (R0.out.below hb R0.out.lt)
  have B1 := hide (Bl.call' B0.out hb)
  have L1 := X1.out.lt
  clear hb X0 R0 B0
  have z12 : w1.cell? ⟨w.heap.size, 2, none⟩ = some (.int .i64 5) := X1.out.cell 2
  have z14 : w1.cell? ⟨w.heap.size, 4, none⟩ = some (.slice none 0 0) := X1.out.cell 4
  go_upto_region 4 with (fail)
  go_region_held3 (fun w' => w'.cell? ⟨w.heap.size, 2, none⟩ = some (.int .i64 5) ∧ w'.cell? ⟨w.heap.size, 4, none⟩ = some (.slice none 0 0)) (first | exact ⟨z12, z14⟩ | exact ⟨z22, z24⟩) (first | (go_at_call 102; refine (C102.out _ ?_).mono ?_; (· repeat (first | with_reducible exact B1.out | with_reducible refine Below.drew ?_ | with_reducible refine below_drewN ?_ _)); rintro e w2 ⟨rfl, hb2⟩; have hk2 : Below w1.heap.size w1 w2 := ⟨hb2.os, hb2.tape, hb2.output, hb2.size, hb2.block⟩; have B2 := hide (Bl.call' B1.out hk2); have L2 := Nat.lt_of_lt_of_le L1 hk2.size; have z22 := (below_cell hk2 L1).trans z12; have z24 := (below_cell hk2 L1).trans z14; have X2 := hide (X1.out.below hk2 X1.out.lt); have R2 := hide (R1.out.below hk2 R1.out.lt); clear hb2 hk2))
  clear z12 z14 z22 z24 X1 R1 B1
  have z20 : w2.cell? ⟨w.heap.size, 1, none⟩ = some (.int .i64 1) := X2.out.cell 1
  have z23 : w2.cell? ⟨w.heap.size, 3, none⟩ = some (.int .i64 0) := X2.out.cell 3
  have z24 : w2.cell? ⟨w.heap.size, 4, none⟩ = some (.slice none 0 0) := X2.out.cell 4
  go_wp2_with (fail)
  refine (C103.out w2).mono ?_
  rintro e w3 ⟨A, k, rfl, hO, hb⟩
  have X3 := hide (X2.out.below hb X2.out.lt)
  have R3 := hide (R2.out.below hb R2.out.lt)
  have B3 := hide (Bl.call' B2.out hb)
  have O3 := hide hO
  have hs2 : w.heap.size < w2.heap.size := X2.out.lt
  have hs2' : w.heap.size + 1 < w2.heap.size := R2.out.lt
  clear hb X2 R2 B2 hO z20 z23 z24
  have y4 : w3.cell? ⟨w.heap.size, 4, none⟩ = some (.slice none 0 0) := X3.out.cell 4
  have yf : w3.frozen? ⟨w.heap.size, 4, none⟩ = false := X3.out.frozen 4
  have X4 := hide ((X3.out.set_ 4 (.slice A 1 k)).castA (show _ = #[.int .i64 5, .int .i64 1, .int .i64 5, .int .i64 0, (.slice A 1 k)] by kernel_rfl))
  have R4 := hide (R3.out.far (p := ⟨w.heap.size, 4, none⟩) (show w.heap.size + 1 ≠ w.heap.size by omega) (.slice A 1 k))
  have B4 := hide (B3.out.setCell (p := ⟨w.heap.size, 4, none⟩) (Nat.le_refl w.heap.size) (.slice A 1 k))
  have O4 := hide (O3.out.keep (w' := w3.setCell ⟨w.heap.size, 4, none⟩ (.slice A 1 k)) (fun q hq => Below.heap_setCell w3 ⟨w.heap.size, 4, none⟩ _ q (by have := (O3.out.lt q hq).1; show q ≠ w.heap.size; omega)))
  go_upto_region 7 with (fail)
  generalize (w3.setCell ⟨w.heap.size, 4, none⟩ (.slice A 1 k)) = w4 at *
  clear X3 R3 B3 O3 y4 yf
  go_wp2_with (first | (refine wpList_loadGA (by rfl) 31 (.tmp 1) rfl w.heap.size 31 _ rfl X4.out Tryz.underlying31 rfl size31a ?_) | (refine wpList_store_row rfl 31 (.tmp 2) (.tmp 26) rfl (w.heap.size + 1) #[.int .i64 5, .int .i64 1, .int .i64 5, .int .i64 0, .slice A 1 k] rfl rfl 31 #[.int .i64 0, .int .i64 0, .int .i64 0, .int .i64 0, .slice none 0 0] R4.out size31a rfl (by simp [Value.oneCell']) ?_))
  refine bodyPost_ret (resB2 (t := 31) (C := #[.int .i64 5, .int .i64 1, .int .i64 5, .int .i64 0, .slice A 1 k]) rfl _ rfl (R4.out.row _) Tryz.underlying31 rfl size31a) rfl ?_
  have O5 := O4.out.keep (w' := w4.setRow (w.heap.size + 1) #[.int .i64 5, .int .i64 1, .int .i64 5, .int .i64 0, .slice A 1 k]) (fun q hq => setRow_other w4 (w.heap.size + 1) q _ (by have := (O4.out.lt q hq).1; omega))
  exact ⟨A, k, rfl, O5.mono (by omega), below_row B4.out (by omega) _⟩
set_option maxRecDepth 100000 in
set_option maxHeartbeats 2000000 in
theorem aw_cask {A : Option Addr} {k B : Nat} {w : World} (h : SlK w B A 1 2 [.int .i64 0, .int .i64 0]) (hB : B ≤ w.heap.size) : Calls Tryz.prog 54 #[.agg #[.int .i64 5, .int .i64 1, .int .i64 5, .int .i64 0, .slice A 1 k]] w (RetB (.tuple #[.agg #[.int .i64 1, .int .i64 1, .int .i64 1, .int .i64 1, .int .i64 1, .int .i64 1], .int .i64 0]) w) := by
  unfold RetB
  have C101 := hide (fun (w1 : World) (hb : Below w.heap.size w w1) => aw_cval1 (k := k) (h.below (hb.mono hB)) (show B ≤ w1.heap.size by have := hb.size; omega))
  have C137 := hide (fun (w1 : World) (hb : Below w.heap.size w w1) => aw_query1 (k := k) (h.below (hb.mono hB)) (show B ≤ w1.heap.size by have := hb.size; omega))
  unfold RetB at C101 C137
  clear h
  have qX : Blk ((w.alloc (.cells #[.int .i64 5, .int .i64 1, .int .i64 5, .int .i64 0, .slice A 1 k] 31)).alloc (.cells #[.int .i64 0, .int .i64 0, .int .i64 0, .int .i64 0, .int .i64 0, .int .i64 0] 70)) w.heap.size 31 #[.int .i64 5, .int .i64 1, .int .i64 5, .int .i64 0, .slice A 1 k] := (Blk.new _ _ _).alloc _
  have qR : Blk ((w.alloc (.cells #[.int .i64 5, .int .i64 1, .int .i64 5, .int .i64 0, .slice A 1 k] 31)).alloc (.cells #[.int .i64 0, .int .i64 0, .int .i64 0, .int .i64 0, .int .i64 0, .int .i64 0] 70)) (w.heap.size + 1) 70 #[.int .i64 0, .int .i64 0, .int .i64 0, .int .i64 0, .int .i64 0, .int .i64 0] := Blk.new_at (by simp) _ _
  have qB : Below w.heap.size w ((w.alloc (.cells #[.int .i64 5, .int .i64 1, .int .i64 5, .int .i64 0, .slice A 1 k] 31)).alloc (.cells #[.int .i64 0, .int .i64 0, .int .i64 0, .int .i64 0, .int .i64 0, .int .i64 0] 70)) := Bl.alloc' (Bl.alloc' (Below.refl _ w) _) _
  go_enter Tryz.func54, Tryz.ntmps54
  go_upto_region 1 with (fail)
  generalize ((w.alloc (.cells #[.int .i64 5, .int .i64 1, .int .i64 5, .int .i64 0, .slice A 1 k] 31)).alloc (.cells #[.int .i64 0, .int .i64 0, .int .i64 0, .int .i64 0, .int .i64 0, .int .i64 0] 70)) = w0 at *
  have X0 := hide qX
  have R0 := hide qR
  have B0 := hide qB
  clear qX qR qB
  go_wp2_with (refine wpList_loadGA (by rfl) 31 (.tmp 1) rfl w.heap.size 31 _ rfl X0.out Tryz.underlying31 rfl size31a ?_)
  refine (C101.out w0 B0.out).mono ?_
  rintro e w1 ⟨rfl, hb⟩
  have X1 := hide (X0.out.below hb X0.out.lt)
  have R1 := hide (R0.out.below hb R0.out.lt)
  have B1 := hide (Bl.call' B0.out hb)
  clear hb X0 R0 B0
  have z14 : w1.cell? ⟨w.heap.size, 4, none⟩ = some (.slice A 1 k) := X1.out.cell 4
  go_wp2_with (fail)
  refine (C137.out w1 B1.out).mono ?_
  rintro e w2 ⟨rfl, hb⟩
  have R2 := hide (R1.out.below hb R1.out.lt)
  have B2 := hide (Bl.call' B1.out hb)
  clear hb X1 R1 B1 z14
  go_wp2_with (refine wpList_store_row rfl 70 (.tmp 2) (.tmp 13) rfl (w.heap.size + 1) #[.int .i64 1, .int .i64 1, .int .i64 1, .int .i64 1, .int .i64 1, .int .i64 1] rfl rfl 70 #[.int .i64 0, .int .i64 0, .int .i64 0, .int .i64 0, .int .i64 0, .int .i64 0] R2.out size70 rfl (by simp [Value.oneCell']) ?_)
  refine bodyPost_ret (resB2 (t := 70) (C := #[.int .i64 1, .int .i64 1, .int .i64 1, .int .i64 1, .int .i64 1, .int .i64 1]) rfl _ rfl (R2.out.row _) Tryz.underlying70 rfl size70) rfl ?_
  exact ⟨rfl, below_row B2.out (by omega) _⟩
end Go.Proofs.YtbageimconenlaaGreat
