/- The reference's cursor: a ratio, a wide number: the contracts. -/
import Derived.Test.YtlcgpldngooekaaCC
import Derived.Test.YtlcgpldngooekaaRep
namespace Go.Proofs.Ytlcgpldngooekaa
open Go.RowKit
set_option linter.unusedVariables false
def CTwoR (f : Int → Value) (L : List Int) (A : Option Addr) (n c cb a : Nat) (bad : Bool) (w : World) (e : Ending) (w' : World) : Prop :=
  ∃ (x y : Int) (a' : Nat) (bad' : Bool) (s : Option (List Int)), e = .returned (.agg #[f x, f y]) ∧ Fit x ∧ Fit y ∧ Took Any (curV L a bad) s x ∧ Took Any s (curV L a' bad') y ∧ CR L A n c w' cb a' bad' ∧ Keep cb cb w w'
theorem size54 : (Try.prog.info? 54).map (·.size) = some 2 := by kernel_rfl
theorem res54 {fn : Func} {p : Tmp} (h : fn.results = #[.cell p 54]) (tmps : Array Value) {w : World} {g : Nat} {t : TypeId} {u0 u1 : Value} (hp : tmps.getD p undef = .pointer (some ⟨g, 0, none⟩)) (hg : Blk w g t #[u0, u1]) :
    (results fn tmps).run Try.prog w = .ok (.agg #[u0, u1]) w := by
  have hp' : tmps[p]?.getD undef = .pointer (some ⟨g, 0, none⟩) := by simpa using hp
  simp [results, h, hp', asAddr, run_loadVar_row w g t 54 _ (0, 0) _ hg Try.underlying54 rfl size54]
set_option maxRecDepth 100000 in
set_option maxHeartbeats 2000000 in
theorem cratio_any {L : List Int} {A : Option Addr} {n c cb a1 : Nat} {b1 : Bool} {w : World} (hC : CR L A n c w cb a1 b1) (hS : Sl w cb A n (L.map (Value.int .i64))) (hi : Ints L) (hn : n ≤ 1000000000) :
    Calls Try.prog 51 #[.pointer (some ⟨cb, 0, none⟩)] w (CTwoR (Value.int .i64) L A n c cb a1 b1 w) := by
  have hcl := hC.1.lt
  have HI := hide hi
  have C1 := hide (show CR L A n c (w.alloc (.cells #[.int .i64 0, .int .i64 0] 54)) cb a1 b1 from ⟨hC.1.alloc _, hC.2⟩)
  have S1 := hide (hS.alloc (Nat.le_of_lt hcl) (.cells #[.int .i64 0, .int .i64 0] 54))
  have R1 := hide (Blk.new_at (w := w) rfl 54 #[.int .i64 0, .int .i64 0])
  have K1 := hide ((Keep.refl cb cb w).alloc (.cells #[.int .i64 0, .int .i64 0] 54))
  have hrc : w.heap.size ≠ cb := by omega
  clear hC hS hi
  go_enter Try.func51, Try.ntmps51
  go_wp2_with (fail)
  generalize (w.alloc (.cells #[.int .i64 0, .int .i64 0] 54)) = w1 at *
  have hw1 : w.heap.size ≤ w1.heap.size := K1.out.size
  refine (take_any C1.out S1.out HI.out hn (Nat.le_refl _)).mono ?_
  rintro e w2 ⟨x0, a2, b2, rfl, hf, ht, hC, _, hK⟩
  have F0 := hide hf
  have U0 := hide ht
  have C2 := hide hC
  have S2 := hide (hK.sl S1.out (Nat.le_refl _) (Nat.le_refl _) (Nat.le_of_lt C1.out.1.lt))
  have R2 := hide (hK.blk R1.out hrc hrc)
  have K2 := hide (K1.out.trans hK)
  have hw2 : w.heap.size ≤ w2.heap.size := K2.out.size
  clear hf ht hC hK hw1 C1 S1 K1 R1
  go_wp2_with (fail)
  refine (take_any C2.out S2.out HI.out hn (Nat.le_refl _)).mono ?_
  rintro e w3 ⟨x1, a3, b3, rfl, hf, ht, hC, _, hK⟩
  have F1 := hide hf
  have U1 := hide ht
  have C3 := hide hC
  have R3 := hide (hK.blk R2.out hrc hrc)
  have K3 := hide (K2.out.trans hK)
  have rc0 := R3.out.cell 0
  have rf0 := R3.out.frozen 0
  have rc1 := R3.out.cell 1
  have rf1 := R3.out.frozen 1
  clear hf ht hC hK hw2 C2 S2 K2 R2
  go_wp2
  refine bodyPost_ret (res54 rfl _ rfl (show Blk ((w3.setCell ⟨w.heap.size, 0, none⟩ (.int .i64 x0)).setCell ⟨w.heap.size, 1, none⟩ (.int .i64 x1)) w.heap.size 54 #[.int .i64 x0, .int .i64 x1] by simpa using (R3.out.set_ 0 (.int .i64 x0)).set_ 1 (.int .i64 x1))) rfl ?_
  exact ⟨x0, x1, a3, b3, _, rfl, F0.out, F1.out, U0.out, U1.out, ⟨(C3.out.1.far (p := ⟨w.heap.size, 0, none⟩) (Ne.symm hrc) _).far (p := ⟨w.heap.size, 1, none⟩) (Ne.symm hrc) _, C3.out.2⟩, (K3.out.set_own (Nat.le_refl _) _ _).set_own (Nat.le_refl _) _ _⟩
theorem size59 : (Try.prog.info? 59).map (·.size) = some 2 := by kernel_rfl
theorem res59 {fn : Func} {p : Tmp} (h : fn.results = #[.cell p 59]) (tmps : Array Value) {w : World} {g : Nat} {t : TypeId} {u0 u1 : Value} (hp : tmps.getD p undef = .pointer (some ⟨g, 0, none⟩)) (hg : Blk w g t #[u0, u1]) :
    (results fn tmps).run Try.prog w = .ok (.agg #[u0, u1]) w := by
  have hp' : tmps[p]?.getD undef = .pointer (some ⟨g, 0, none⟩) := by simpa using hp
  simp [results, h, hp', asAddr, run_loadVar_row w g t 59 _ (0, 0) _ hg Try.underlying59 rfl size59]
set_option maxRecDepth 100000 in
set_option maxHeartbeats 2000000 in
theorem cwide_any {L : List Int} {A : Option Addr} {n c cb a1 : Nat} {b1 : Bool} {w : World} (hC : CR L A n c w cb a1 b1) (hS : Sl w cb A n (L.map (Value.int .i64))) (hi : Ints L) (hn : n ≤ 1000000000) :
    Calls Try.prog 52 #[.pointer (some ⟨cb, 0, none⟩)] w (CTwoR (fun n => Value.int .u64 (U64 n)) L A n c cb a1 b1 w) := by
  have hcl := hC.1.lt
  have HI := hide hi
  have C1 := hide (show CR L A n c (w.alloc (.cells #[.int .u64 0, .int .u64 0] 59)) cb a1 b1 from ⟨hC.1.alloc _, hC.2⟩)
  have S1 := hide (hS.alloc (Nat.le_of_lt hcl) (.cells #[.int .u64 0, .int .u64 0] 59))
  have R1 := hide (Blk.new_at (w := w) rfl 59 #[.int .u64 0, .int .u64 0])
  have K1 := hide ((Keep.refl cb cb w).alloc (.cells #[.int .u64 0, .int .u64 0] 59))
  have hrc : w.heap.size ≠ cb := by omega
  clear hC hS hi
  go_enter Try.func52, Try.ntmps52
  go_wp2_with (fail)
  generalize (w.alloc (.cells #[.int .u64 0, .int .u64 0] 59)) = w1 at *
  have hw1 : w.heap.size ≤ w1.heap.size := K1.out.size
  refine (take_any C1.out S1.out HI.out hn (Nat.le_refl _)).mono ?_
  rintro e w2 ⟨x0, a2, b2, rfl, hf, ht, hC, _, hK⟩
  have F0 := hide hf
  have U0 := hide ht
  have C2 := hide hC
  have S2 := hide (hK.sl S1.out (Nat.le_refl _) (Nat.le_refl _) (Nat.le_of_lt C1.out.1.lt))
  have R2 := hide (hK.blk R1.out hrc hrc)
  have K2 := hide (K1.out.trans hK)
  have hw2 : w.heap.size ≤ w2.heap.size := K2.out.size
  have V0 : IntKind.u64.wrap x0 = U64 x0 := U64.of_i64 x0
  clear hf ht hC hK hw1 C1 S1 K1 R1
  go_wp2_with (fail)
  refine (take_any C2.out S2.out HI.out hn (Nat.le_refl _)).mono ?_
  rintro e w3 ⟨x1, a3, b3, rfl, hf, ht, hC, _, hK⟩
  have F1 := hide hf
  have U1 := hide ht
  have C3 := hide hC
  have R3 := hide (hK.blk R2.out hrc hrc)
  have K3 := hide (K2.out.trans hK)
  have V1 : IntKind.u64.wrap x1 = U64 x1 := U64.of_i64 x1
  have rc0 := R3.out.cell 0
  have rf0 := R3.out.frozen 0
  have rc1 := R3.out.cell 1
  have rf1 := R3.out.frozen 1
  clear hf ht hC hK hw2 C2 S2 K2 R2
  go_wp2
  refine bodyPost_ret (res59 rfl _ rfl (show Blk ((w3.setCell ⟨w.heap.size, 0, none⟩ (.int .u64 (U64 x0))).setCell ⟨w.heap.size, 1, none⟩ (.int .u64 (U64 x1))) w.heap.size 59 #[.int .u64 (U64 x0), .int .u64 (U64 x1)] by simpa using (R3.out.set_ 0 (.int .u64 (U64 x0))).set_ 1 (.int .u64 (U64 x1)))) rfl ?_
  exact ⟨x0, x1, a3, b3, _, rfl, F0.out, F1.out, U0.out, U1.out, ⟨(C3.out.1.far (p := ⟨w.heap.size, 0, none⟩) (Ne.symm hrc) _).far (p := ⟨w.heap.size, 1, none⟩) (Ne.symm hrc) _, C3.out.2⟩, (K3.out.set_own (Nat.le_refl _) _ _).set_own (Nat.le_refl _) _ _⟩
end Go.Proofs.Ytlcgpldngooekaa
