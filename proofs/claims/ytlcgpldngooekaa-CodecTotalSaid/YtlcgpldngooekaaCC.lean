/- A configuration by the reference's cursor: the contract. -/
import Derived.Test.YtlcgpldngooekaaCB
import Derived.Test.YtlcgpldngooekaaTD
namespace Go.Proofs.Ytlcgpldngooekaa
open Go.RowKit
set_option linter.unusedVariables false
theorem size41 : (Try.prog.info? 41).map (·.size) = some 8 := by kernel_rfl
theorem load41 {w : World} {g : Nat} {t : TypeId} {u0 u1 u2 u3 u4 u5 u6 u7 : Value} (h : Blk w g t #[u0, u1, u2, u3, u4, u5, u6, u7]) : (loadVar 41 ⟨g, 0, none⟩).run Try.prog w = .ok (.agg #[u0, u1, u2, u3, u4, u5, u6, u7]) w :=
  run_loadVar_row w g t 41 _ (0, 0) _ h Try.underlying41 rfl size41
theorem res41 {fn : Func} {p : Tmp} (h : fn.results = #[.cell p 41]) (tmps : Array Value) {w : World} {g : Nat} {t : TypeId} {u0 u1 u2 u3 u4 u5 u6 u7 : Value} (hp : tmps.getD p undef = .pointer (some ⟨g, 0, none⟩)) (hg : Blk w g t #[u0, u1, u2, u3, u4, u5, u6, u7]) :
    (results fn tmps).run Try.prog w = .ok (.agg #[u0, u1, u2, u3, u4, u5, u6, u7]) w := by
  have hp' : tmps[p]?.getD undef = .pointer (some ⟨g, 0, none⟩) := by simpa using hp
  simp [results, h, hp', asAddr, load41 hg]
theorem wp_load41 {o : Oper} {a : Act} {w : World} {K : Act → World → Prop} {Q : Exit → Act → World → Prop} (x : Operand) (ho : o.op = .load 41 x) (g : Nat) (t : TypeId) {u0 u1 u2 u3 u4 u5 u6 u7 : Value} (hx : a.eval x = .pointer (some ⟨g, 0, none⟩)) (hB : Blk w g t #[u0, u1, u2, u3, u4, u5, u6, u7]) (h : K (a.put o.dst (.agg #[u0, u1, u2, u3, u4, u5, u6, u7])) w) : o.wp Try.prog a w K Q := by
  unfold Oper.wp execOp
  simp only [ho, hx, Instr.loadAt, Instr.sureAddr, Sem.run_bind, Sem.run_pure, Result.andThen_ok, load41 hB]
  exact h
theorem wpList_load41 {ops : Array Oper} {rest : List Oper} {o : Oper} {a : Act} {w : World} {Q : Exit → Act → World → Prop} (hg : o.guard = none) (x : Operand) (ho : o.op = .load 41 x) (g : Nat) (t : TypeId) {u0 u1 u2 u3 u4 u5 u6 u7 : Value} (hx : a.eval x = .pointer (some ⟨g, 0, none⟩)) (hB : Blk w g t #[u0, u1, u2, u3, u4, u5, u6, u7]) (h : wpList Try.prog ops Q rest (a.put o.dst (.agg #[u0, u1, u2, u3, u4, u5, u6, u7])) w) : wpList Try.prog ops Q (o :: rest) a w :=
  wpList_plain hg fun _ hK => wp_load41 x ho g t hx hB (hK _ _ h)
theorem Keep.row {tb g h : Nat} {a b : World} (x : Keep tb g a b) (hh : a.heap.size ≤ h) (cs : Array Value) : Keep tb g a (b.setRow h cs) :=
  ⟨x.os, x.tape, x.output, by simpa [World.setRow] using x.size, fun k hk h1 h2 => (setRow_other b h k cs (by omega)).trans (x.block k hk h1 h2)⟩
def CConfR (L : List Int) (A : Option Addr) (n c cb a : Nat) (bad : Bool) (w : World) (e : Ending) (w' : World) : Prop :=
  ∃ (x0 x1 x2 x3 x4 x5 x6 x7 : Int) (a' : Nat) (bad' : Bool), e = .returned (.agg #[.int .i64 x0, .int .i64 x1, .int .i64 x2, .int .i64 x3, .int .i64 x4, .int .i64 x5, .int .i64 x6, .int .i64 x7]) ∧ (Fit x0 ∧ Fit x1 ∧ Fit x2 ∧ Fit x3 ∧ Fit x4 ∧ Fit x5 ∧ Fit x6 ∧ Fit x7) ∧
    (∃ s1 s2 s3 s4 s5 s6 s7, Took Any (curV L a bad) s1 x0 ∧ Took Any s1 s2 x1 ∧ Took Any s2 s3 x2 ∧ Took Any s3 s4 x3 ∧ Took Any s4 s5 x4 ∧ Took Any s5 s6 x5 ∧ Took Any s6 s7 x6 ∧ Took Any s7 (curV L a' bad') x7) ∧
    CR L A n c w' cb a' bad' ∧ Keep cb cb w w'
set_option maxRecDepth 100000 in
set_option maxHeartbeats 2000000 in
theorem cconf_any {L : List Int} {A : Option Addr} {n c cb a1 : Nat} {b1 : Bool} {w : World} (hC : CR L A n c w cb a1 b1) (hS : Sl w cb A n (L.map (Value.int .i64))) (hi : Ints L) (hn : n ≤ 1000000000) :
    Calls Try.prog 45 #[.pointer (some ⟨cb, 0, none⟩)] w (CConfR L A n c cb a1 b1 w) := by
  have hcl := hC.1.lt
  have HI := hide hi
  have C1 := hide (show CR L A n c ((w.alloc (.cells #[.int .i64 0, .int .i64 0, .int .i64 0, .int .i64 0, .int .i64 0, .int .i64 0, .int .i64 0, .int .i64 0] 41)).alloc (.cells #[.int .i64 0, .int .i64 0, .int .i64 0, .int .i64 0, .int .i64 0, .int .i64 0, .int .i64 0, .int .i64 0] 41)) cb a1 b1 from ⟨(hC.1.alloc _).alloc _, hC.2⟩)
  have S1 := hide ((hS.alloc (Nat.le_of_lt hcl) (.cells #[.int .i64 0, .int .i64 0, .int .i64 0, .int .i64 0, .int .i64 0, .int .i64 0, .int .i64 0, .int .i64 0] 41)).alloc (by simp; omega) (.cells #[.int .i64 0, .int .i64 0, .int .i64 0, .int .i64 0, .int .i64 0, .int .i64 0, .int .i64 0, .int .i64 0] 41))
  have R1 := hide ((Blk.new_at (w := w) rfl 41 #[.int .i64 0, .int .i64 0, .int .i64 0, .int .i64 0, .int .i64 0, .int .i64 0, .int .i64 0, .int .i64 0]).alloc (.cells #[.int .i64 0, .int .i64 0, .int .i64 0, .int .i64 0, .int .i64 0, .int .i64 0, .int .i64 0, .int .i64 0] 41))
  have G1 := hide (Blk.new_at (w := (w.alloc (.cells #[.int .i64 0, .int .i64 0, .int .i64 0, .int .i64 0, .int .i64 0, .int .i64 0, .int .i64 0, .int .i64 0] 41))) (g := w.heap.size + 1) (by simp) 41 #[.int .i64 0, .int .i64 0, .int .i64 0, .int .i64 0, .int .i64 0, .int .i64 0, .int .i64 0, .int .i64 0])
  have K1 := hide (((Keep.refl cb cb w).alloc (.cells #[.int .i64 0, .int .i64 0, .int .i64 0, .int .i64 0, .int .i64 0, .int .i64 0, .int .i64 0, .int .i64 0] 41)).alloc (.cells #[.int .i64 0, .int .i64 0, .int .i64 0, .int .i64 0, .int .i64 0, .int .i64 0, .int .i64 0, .int .i64 0] 41))
  have hcg : cb ≠ w.heap.size + 1 := by omega
  have hcbg : cb ≤ w.heap.size + 1 := by omega
  have hgw : w.heap.size ≤ w.heap.size + 1 := by omega
  have hrg : w.heap.size ≠ w.heap.size + 1 := by omega
  have hrc : w.heap.size ≠ cb := by omega
  clear hC hS hi
  go_enter Try.func45, Try.ntmps45
  go_wp2_with (fail)
  generalize ((w.alloc (.cells #[.int .i64 0, .int .i64 0, .int .i64 0, .int .i64 0, .int .i64 0, .int .i64 0, .int .i64 0, .int .i64 0] 41)).alloc (.cells #[.int .i64 0, .int .i64 0, .int .i64 0, .int .i64 0, .int .i64 0, .int .i64 0, .int .i64 0, .int .i64 0] 41)) = w1 at *
  have hw1 : w.heap.size ≤ w1.heap.size := K1.out.size
  refine (take_any C1.out S1.out HI.out hn (Nat.le_refl _)).mono ?_
  rintro e w2 ⟨x0, a2, b2, rfl, hf, ht, hC, _, hK⟩
  have F0 := hide hf
  have U0 := hide ht
  have C2 := hide hC
  have S2 := hide (hK.sl S1.out (Nat.le_refl _) (Nat.le_refl _) (Nat.le_of_lt C1.out.1.lt))
  have G2 := hide (hK.blk G1.out (Ne.symm hcg) (Ne.symm hcg))
  have R2 := hide (hK.blk R1.out hrc hrc)
  have K2 := hide (K1.out.trans hK)
  have hw2 : w.heap.size ≤ w2.heap.size := K2.out.size
  clear hf ht hC hK hw1 C1 S1 K1 G1 R1
  go_wp2_with (fail)
  refine (take_any C2.out S2.out HI.out hn (Nat.le_refl _)).mono ?_
  rintro e w3 ⟨x1, a3, b3, rfl, hf, ht, hC, _, hK⟩
  have F1 := hide hf
  have U1 := hide ht
  have C3 := hide hC
  have S3 := hide (hK.sl S2.out (Nat.le_refl _) (Nat.le_refl _) (Nat.le_of_lt C2.out.1.lt))
  have G3 := hide (hK.blk G2.out (Ne.symm hcg) (Ne.symm hcg))
  have R3 := hide (hK.blk R2.out hrc hrc)
  have K3 := hide (K2.out.trans hK)
  have hw3 : w.heap.size ≤ w3.heap.size := K3.out.size
  clear hf ht hC hK hw2 C2 S2 K2 G2 R2
  have gc0 := G3.out.cell 0
  have gf0 := G3.out.frozen 0
  have gc1 := G3.out.cell 1
  have gf1 := G3.out.frozen 1
  go_wp2_with (fail)
  have G4 := hide (show Blk ((w3.setCell ⟨(w.heap.size + 1), 0, none⟩ (.int .i64 x0)).setCell ⟨(w.heap.size + 1), 1, none⟩ (.int .i64 x1)) (w.heap.size + 1) 41 #[.int .i64 x0, .int .i64 x1, .int .i64 0, .int .i64 0, .int .i64 0, .int .i64 0, .int .i64 0, .int .i64 0] by simpa using ((G3.out.set_ 0 (.int .i64 x0)).set_ 1 (.int .i64 x1)))
  have C4 := hide (show CR L A n c ((w3.setCell ⟨(w.heap.size + 1), 0, none⟩ (.int .i64 x0)).setCell ⟨(w.heap.size + 1), 1, none⟩ (.int .i64 x1)) cb a3 b3 from ⟨((C3.out.1.far (p := ⟨(w.heap.size + 1), 0, none⟩) hcg (.int .i64 x0)).far (p := ⟨(w.heap.size + 1), 1, none⟩) hcg (.int .i64 x1)), C3.out.2⟩)
  have S4 := hide (S3.out.below (((Below.refl cb w3).setCell (p := ⟨(w.heap.size + 1), 0, none⟩) hcbg (.int .i64 x0)).setCell (p := ⟨(w.heap.size + 1), 1, none⟩) hcbg (.int .i64 x1)))
  have K4 := hide ((K3.out.set_own hgw 0 (.int .i64 x0)).set_own hgw 1 (.int .i64 x1))
  have R4 := hide ((R3.out.far (p := ⟨(w.heap.size + 1), 0, none⟩) hrg (.int .i64 x0)).far (p := ⟨(w.heap.size + 1), 1, none⟩) hrg (.int .i64 x1))
  clear gc0 gf0 gc1 gf1 C3 S3 K3 G3 R3
  generalize ((w3.setCell ⟨(w.heap.size + 1), 0, none⟩ (.int .i64 x0)).setCell ⟨(w.heap.size + 1), 1, none⟩ (.int .i64 x1)) = w4 at *
  have hw4 : w.heap.size ≤ w4.heap.size := K4.out.size
  clear hw3
  refine (take_any C4.out S4.out HI.out hn (Nat.le_refl _)).mono ?_
  rintro e w5 ⟨x2, a5, b5, rfl, hf, ht, hC, _, hK⟩
  have F2 := hide hf
  have U2 := hide ht
  have C5 := hide hC
  have S5 := hide (hK.sl S4.out (Nat.le_refl _) (Nat.le_refl _) (Nat.le_of_lt C4.out.1.lt))
  have G5 := hide (hK.blk G4.out (Ne.symm hcg) (Ne.symm hcg))
  have R5 := hide (hK.blk R4.out hrc hrc)
  have K5 := hide (K4.out.trans hK)
  have hw5 : w.heap.size ≤ w5.heap.size := K5.out.size
  clear hf ht hC hK hw4 C4 S4 K4 G4 R4
  have gc2 := G5.out.cell 2
  have gf2 := G5.out.frozen 2
  go_wp2_with (fail)
  have G6 := hide (show Blk (w5.setCell ⟨(w.heap.size + 1), 2, none⟩ (.int .i64 x2)) (w.heap.size + 1) 41 #[.int .i64 x0, .int .i64 x1, .int .i64 x2, .int .i64 0, .int .i64 0, .int .i64 0, .int .i64 0, .int .i64 0] by simpa using (G5.out.set_ 2 (.int .i64 x2)))
  have C6 := hide (show CR L A n c (w5.setCell ⟨(w.heap.size + 1), 2, none⟩ (.int .i64 x2)) cb a5 b5 from ⟨(C5.out.1.far (p := ⟨(w.heap.size + 1), 2, none⟩) hcg (.int .i64 x2)), C5.out.2⟩)
  have S6 := hide (S5.out.below ((Below.refl cb w5).setCell (p := ⟨(w.heap.size + 1), 2, none⟩) hcbg (.int .i64 x2)))
  have K6 := hide (K5.out.set_own hgw 2 (.int .i64 x2))
  have R6 := hide (R5.out.far (p := ⟨(w.heap.size + 1), 2, none⟩) hrg (.int .i64 x2))
  clear gc2 gf2 C5 S5 K5 G5 R5
  generalize (w5.setCell ⟨(w.heap.size + 1), 2, none⟩ (.int .i64 x2)) = w6 at *
  have hw6 : w.heap.size ≤ w6.heap.size := K6.out.size
  clear hw5
  refine (take_any C6.out S6.out HI.out hn (Nat.le_refl _)).mono ?_
  rintro e w7 ⟨x3, a7, b7, rfl, hf, ht, hC, _, hK⟩
  have F3 := hide hf
  have U3 := hide ht
  have C7 := hide hC
  have S7 := hide (hK.sl S6.out (Nat.le_refl _) (Nat.le_refl _) (Nat.le_of_lt C6.out.1.lt))
  have G7 := hide (hK.blk G6.out (Ne.symm hcg) (Ne.symm hcg))
  have R7 := hide (hK.blk R6.out hrc hrc)
  have K7 := hide (K6.out.trans hK)
  have hw7 : w.heap.size ≤ w7.heap.size := K7.out.size
  clear hf ht hC hK hw6 C6 S6 K6 G6 R6
  go_wp2_with (fail)
  refine (take_any C7.out S7.out HI.out hn (Nat.le_refl _)).mono ?_
  rintro e w8 ⟨x4, a8, b8, rfl, hf, ht, hC, _, hK⟩
  have F4 := hide hf
  have U4 := hide ht
  have C8 := hide hC
  have S8 := hide (hK.sl S7.out (Nat.le_refl _) (Nat.le_refl _) (Nat.le_of_lt C7.out.1.lt))
  have G8 := hide (hK.blk G7.out (Ne.symm hcg) (Ne.symm hcg))
  have R8 := hide (hK.blk R7.out hrc hrc)
  have K8 := hide (K7.out.trans hK)
  have hw8 : w.heap.size ≤ w8.heap.size := K8.out.size
  clear hf ht hC hK hw7 C7 S7 K7 G7 R7
  have gc3 := G8.out.cell 3
  have gf3 := G8.out.frozen 3
  have gc4 := G8.out.cell 4
  have gf4 := G8.out.frozen 4
  go_wp2_with (fail)
  have G9 := hide (show Blk ((w8.setCell ⟨(w.heap.size + 1), 3, none⟩ (.int .i64 x3)).setCell ⟨(w.heap.size + 1), 4, none⟩ (.int .i64 x4)) (w.heap.size + 1) 41 #[.int .i64 x0, .int .i64 x1, .int .i64 x2, .int .i64 x3, .int .i64 x4, .int .i64 0, .int .i64 0, .int .i64 0] by simpa using ((G8.out.set_ 3 (.int .i64 x3)).set_ 4 (.int .i64 x4)))
  have C9 := hide (show CR L A n c ((w8.setCell ⟨(w.heap.size + 1), 3, none⟩ (.int .i64 x3)).setCell ⟨(w.heap.size + 1), 4, none⟩ (.int .i64 x4)) cb a8 b8 from ⟨((C8.out.1.far (p := ⟨(w.heap.size + 1), 3, none⟩) hcg (.int .i64 x3)).far (p := ⟨(w.heap.size + 1), 4, none⟩) hcg (.int .i64 x4)), C8.out.2⟩)
  have S9 := hide (S8.out.below (((Below.refl cb w8).setCell (p := ⟨(w.heap.size + 1), 3, none⟩) hcbg (.int .i64 x3)).setCell (p := ⟨(w.heap.size + 1), 4, none⟩) hcbg (.int .i64 x4)))
  have K9 := hide ((K8.out.set_own hgw 3 (.int .i64 x3)).set_own hgw 4 (.int .i64 x4))
  have R9 := hide ((R8.out.far (p := ⟨(w.heap.size + 1), 3, none⟩) hrg (.int .i64 x3)).far (p := ⟨(w.heap.size + 1), 4, none⟩) hrg (.int .i64 x4))
  clear gc3 gf3 gc4 gf4 C8 S8 K8 G8 R8
  generalize ((w8.setCell ⟨(w.heap.size + 1), 3, none⟩ (.int .i64 x3)).setCell ⟨(w.heap.size + 1), 4, none⟩ (.int .i64 x4)) = w9 at *
  have hw9 : w.heap.size ≤ w9.heap.size := K9.out.size
  clear hw8
  refine (take_any C9.out S9.out HI.out hn (Nat.le_refl _)).mono ?_
  rintro e w10 ⟨x5, a10, b10, rfl, hf, ht, hC, _, hK⟩
  have F5 := hide hf
  have U5 := hide ht
  have C10 := hide hC
  have S10 := hide (hK.sl S9.out (Nat.le_refl _) (Nat.le_refl _) (Nat.le_of_lt C9.out.1.lt))
  have G10 := hide (hK.blk G9.out (Ne.symm hcg) (Ne.symm hcg))
  have R10 := hide (hK.blk R9.out hrc hrc)
  have K10 := hide (K9.out.trans hK)
  have hw10 : w.heap.size ≤ w10.heap.size := K10.out.size
  clear hf ht hC hK hw9 C9 S9 K9 G9 R9
  go_wp2_with (fail)
  refine (take_any C10.out S10.out HI.out hn (Nat.le_refl _)).mono ?_
  rintro e w11 ⟨x6, a11, b11, rfl, hf, ht, hC, _, hK⟩
  have F6 := hide hf
  have U6 := hide ht
  have C11 := hide hC
  have S11 := hide (hK.sl S10.out (Nat.le_refl _) (Nat.le_refl _) (Nat.le_of_lt C10.out.1.lt))
  have G11 := hide (hK.blk G10.out (Ne.symm hcg) (Ne.symm hcg))
  have R11 := hide (hK.blk R10.out hrc hrc)
  have K11 := hide (K10.out.trans hK)
  have hw11 : w.heap.size ≤ w11.heap.size := K11.out.size
  clear hf ht hC hK hw10 C10 S10 K10 G10 R10
  have gc5 := G11.out.cell 5
  have gf5 := G11.out.frozen 5
  have gc6 := G11.out.cell 6
  have gf6 := G11.out.frozen 6
  go_wp2_with (fail)
  have G12 := hide (show Blk ((w11.setCell ⟨(w.heap.size + 1), 5, none⟩ (.int .i64 x5)).setCell ⟨(w.heap.size + 1), 6, none⟩ (.int .i64 x6)) (w.heap.size + 1) 41 #[.int .i64 x0, .int .i64 x1, .int .i64 x2, .int .i64 x3, .int .i64 x4, .int .i64 x5, .int .i64 x6, .int .i64 0] by simpa using ((G11.out.set_ 5 (.int .i64 x5)).set_ 6 (.int .i64 x6)))
  have C12 := hide (show CR L A n c ((w11.setCell ⟨(w.heap.size + 1), 5, none⟩ (.int .i64 x5)).setCell ⟨(w.heap.size + 1), 6, none⟩ (.int .i64 x6)) cb a11 b11 from ⟨((C11.out.1.far (p := ⟨(w.heap.size + 1), 5, none⟩) hcg (.int .i64 x5)).far (p := ⟨(w.heap.size + 1), 6, none⟩) hcg (.int .i64 x6)), C11.out.2⟩)
  have S12 := hide (S11.out.below (((Below.refl cb w11).setCell (p := ⟨(w.heap.size + 1), 5, none⟩) hcbg (.int .i64 x5)).setCell (p := ⟨(w.heap.size + 1), 6, none⟩) hcbg (.int .i64 x6)))
  have K12 := hide ((K11.out.set_own hgw 5 (.int .i64 x5)).set_own hgw 6 (.int .i64 x6))
  have R12 := hide ((R11.out.far (p := ⟨(w.heap.size + 1), 5, none⟩) hrg (.int .i64 x5)).far (p := ⟨(w.heap.size + 1), 6, none⟩) hrg (.int .i64 x6))
  clear gc5 gf5 gc6 gf6 C11 S11 K11 G11 R11
  generalize ((w11.setCell ⟨(w.heap.size + 1), 5, none⟩ (.int .i64 x5)).setCell ⟨(w.heap.size + 1), 6, none⟩ (.int .i64 x6)) = w12 at *
  have hw12 : w.heap.size ≤ w12.heap.size := K12.out.size
  clear hw11
  refine (take_any C12.out S12.out HI.out hn (Nat.le_refl _)).mono ?_
  rintro e w13 ⟨x7, a13, b13, rfl, hf, ht, hC, _, hK⟩
  have F7 := hide hf
  have U7 := hide ht
  have C13 := hide hC
  have S13 := hide (hK.sl S12.out (Nat.le_refl _) (Nat.le_refl _) (Nat.le_of_lt C12.out.1.lt))
  have G13 := hide (hK.blk G12.out (Ne.symm hcg) (Ne.symm hcg))
  have R13 := hide (hK.blk R12.out hrc hrc)
  have K13 := hide (K12.out.trans hK)
  have hw13 : w.heap.size ≤ w13.heap.size := K13.out.size
  clear hf ht hC hK hw12 C12 S12 K12 G12 R12
  have gc7 := G13.out.cell 7
  have gf7 := G13.out.frozen 7
  go_upto_region 7 with (fail)
  have G14 := hide (show Blk (w13.setCell ⟨(w.heap.size + 1), 7, none⟩ (.int .i64 x7)) (w.heap.size + 1) 41 #[.int .i64 x0, .int .i64 x1, .int .i64 x2, .int .i64 x3, .int .i64 x4, .int .i64 x5, .int .i64 x6, .int .i64 x7] by simpa using (G13.out.set_ 7 (.int .i64 x7)))
  have C14 := hide (show CR L A n c (w13.setCell ⟨(w.heap.size + 1), 7, none⟩ (.int .i64 x7)) cb a13 b13 from ⟨(C13.out.1.far (p := ⟨(w.heap.size + 1), 7, none⟩) hcg (.int .i64 x7)), C13.out.2⟩)
  have S14 := hide (S13.out.below ((Below.refl cb w13).setCell (p := ⟨(w.heap.size + 1), 7, none⟩) hcbg (.int .i64 x7)))
  have K14 := hide (K13.out.set_own hgw 7 (.int .i64 x7))
  have R14 := hide (R13.out.far (p := ⟨(w.heap.size + 1), 7, none⟩) hrg (.int .i64 x7))
  clear gc7 gf7 C13 S13 K13 G13 R13
  generalize (w13.setCell ⟨(w.heap.size + 1), 7, none⟩ (.int .i64 x7)) = w14 at *
  have hw14 : w.heap.size ≤ w14.heap.size := K14.out.size
  clear hw13
  refine wp_region_list ?_
  refine wpList_load41 rfl (.tmp 3) rfl (w.heap.size + 1) 41 rfl G14.out ?_
  refine wpList_store_row rfl 41 (.tmp 2) (.tmp 28) rfl w.heap.size #[.int .i64 x0, .int .i64 x1, .int .i64 x2, .int .i64 x3, .int .i64 x4, .int .i64 x5, .int .i64 x6, .int .i64 x7] rfl rfl 41 #[.int .i64 0, .int .i64 0, .int .i64 0, .int .i64 0, .int .i64 0, .int .i64 0, .int .i64 0, .int .i64 0] R14.out size41 rfl (by simp [Value.oneCell']) ?_
  go_wp2
  refine bodyPost_ret (res41 rfl _ rfl (R14.out.row _)) rfl ?_
  exact ⟨x0, x1, x2, x3, x4, x5, x6, x7, a13, b13, rfl, ⟨F0.out, F1.out, F2.out, F3.out, F4.out, F5.out, F6.out, F7.out⟩, ⟨_, _, _, _, _, _, _, U0.out, U1.out, U2.out, U3.out, U4.out, U5.out, U6.out, U7.out⟩, ⟨(setRow_other _ _ _ _ (Ne.symm hrc)).trans C14.out.1, C14.out.2⟩, K14.out.row (Nat.le_refl _) _⟩
end Go.Proofs.Ytlcgpldngooekaa
