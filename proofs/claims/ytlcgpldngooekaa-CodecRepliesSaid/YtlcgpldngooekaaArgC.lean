/- A command as an argument: seventeen cells, two lists. -/
import Derived.Test.YtlcgpldngooekaaCmd
import Derived.Test.YtlcgpldngooekaaLNum
import Derived.Lib.SmallJoins
namespace Go.Proofs.Ytlcgpldngooekaa
open Go.RowKit Go.ChangeShapes Go.WideShapes Go.Deep Go.Joins
set_option linter.unusedVariables false
set_option maxRecDepth 100000
section
variable {H : Type} {enc : TypeId × Value → H} {W : World} {held : Bool}
theorem arg_ints {n : Nat} {c : Value} {y : DataW H × List MemPlace} (h : DataW.trod enc Try.prog W 0 (fun _ => true) held n 33 [c] = some y) : ∃ (A : Option Addr) (k : Nat) (l : List Int), c = .slice A l.length k ∧ Sl W W.heap.size A l.length (l.map (Value.int .i64)) ∧ Ints l := by
  rcases open_ints Try.underlying33 Try.underlying2 (by kernel_rfl) h with ⟨hcs, hx⟩ | ⟨x, l, c', zs, hcs, _, hl, hm, hz, hx, hcell, hwz⟩
  · simp at hcs
    exact ⟨none, 0, [], by simpa using hcs, Sl.none_, fun y hy => by cases hy⟩
  · simp at hcs
    have w0 : IsRow .i64 W (some x) l c' zs := .inr ⟨x, rfl, hl, hm, by simpa using hz, hcell, hwz⟩
    obtain ⟨h1, h2⟩ := row_ints w0
    have hlen : (zs.take l).length = l := by simp at hz; simp; omega
    exact ⟨some x, c', zs.take l, by rw [hlen]; exact hcs, by rw [hlen]; exact h1, h2⟩
theorem arg_bytes {n : Nat} {c : Value} {y : DataW H × List MemPlace} (h : DataW.trod enc Try.prog W 0 (fun _ => true) held n 22 [c] = some y) : ∃ (A : Option Addr) (k : Nat) (l : List Int), c = .slice A l.length k ∧ Sl W W.heap.size A l.length (l.map (Value.int .u8)) ∧ (∀ d ∈ l, 0 ≤ d ∧ d ≤ 255) := by
  rcases open_ints Try.underlying22 Try.underlying5 (by kernel_rfl) h with ⟨hcs, hx⟩ | ⟨x, l, c', zs, hcs, _, hl, hm, hz, hx, hcell, hwz⟩
  · simp at hcs
    exact ⟨none, 0, [], by simpa using hcs, Sl.none_, fun y hy => by cases hy⟩
  · simp at hcs
    have w0 : IsRow .u8 W (some x) l c' zs := .inr ⟨x, rfl, hl, hm, by simpa using hz, hcell, hwz⟩
    obtain ⟨h1, h2, h3, h4, h5⟩ := row_bytes w0
    exact ⟨some x, c', zs.take l, by rw [h4]; exact hcs, by rw [h4]; exact h1, h2⟩
theorem arg_fit {n : Int} (h : (Lit.int .i64 n).wf = true) : Fit n := by
  have := bounds_i64 h; unfold Fit; omega
theorem arg_cmd {r : Reach} {b0 : Nat} {v : Value} {d : DataW H} {p : List MemPlace} (hv : Value.okWide Try.prog W r b0 45 v) (h : DataW.Trod enc Try.prog W 0 (fun _ => true) held 45 v d p) :
    ∃ x : CmdD, HoldsC W W.heap.size v x ∧ x.Ok := by
  have hC : Try.prog.cellsOf 45 = 17 := by kernel_rfl
  have k2 : Try.prog.cellsOf 2 = 1 := by kernel_rfl
  have k3 : Try.prog.cellsOf 3 = 1 := by kernel_rfl
  have k41 : Try.prog.cellsOf 41 = 8 := by kernel_rfl
  have k43 : Try.prog.cellsOf 43 = 3 := by kernel_rfl
  have k33 : Try.prog.cellsOf 33 = 1 := by kernel_rfl
  have k22 : Try.prog.cellsOf 22 = 1 := by kernel_rfl
  obtain ⟨cs, rfl, hsz⟩ := okWide_struct Try.underlying45 hv
  obtain ⟨l⟩ := cs
  match l, hsz.trans hC with
  | [c0, c1, c2, c3, c4, c5, c6, c7, c8, c9, c10, c11, c12, c13, c14, c15, c16], _ =>
    obtain ⟨fuel, hf⟩ := h
    obtain ⟨xs, n, _, hx, _, hlen, hg⟩ := DataW.trod_struct Try.underlying45 hf
    match xs, hlen with
    | [y0, y1, y2, y3, y4, y5, y6, y7], _ =>
      have g0 : DataW.trod enc Try.prog W 0 (fun _ => true) held n 3 [c0] = some y0 := by simpa [Value.cells, k2, k3, k41, k43, k33, k22] using hg 0 _ rfl
      have g1 : DataW.trod enc Try.prog W 0 (fun _ => true) held n 2 [c1] = some y1 := by simpa [Value.cells, k2, k3, k41, k43, k33, k22] using hg 1 _ rfl
      have g2 : DataW.trod enc Try.prog W 0 (fun _ => true) held n 41 [c2, c3, c4, c5, c6, c7, c8, c9] = some y2 := by simpa [Value.cells, k2, k3, k41, k43, k33, k22] using hg 2 _ rfl
      have g3 : DataW.trod enc Try.prog W 0 (fun _ => true) held n 2 [c10] = some y3 := by simpa [Value.cells, k2, k3, k41, k43, k33, k22] using hg 3 _ rfl
      have g4 : DataW.trod enc Try.prog W 0 (fun _ => true) held n 2 [c11] = some y4 := by simpa [Value.cells, k2, k3, k41, k43, k33, k22] using hg 4 _ rfl
      have g5 : DataW.trod enc Try.prog W 0 (fun _ => true) held n 33 [c12] = some y5 := by simpa [Value.cells, k2, k3, k41, k43, k33, k22] using hg 5 _ rfl
      have g6 : DataW.trod enc Try.prog W 0 (fun _ => true) held n 43 [c13, c14, c15] = some y6 := by simpa [Value.cells, k2, k3, k41, k43, k33, k22] using hg 6 _ rfl
      have g7 : DataW.trod enc Try.prog W 0 (fun _ => true) held n 22 [c16] = some y7 := by simpa [Value.cells, k2, k3, k41, k43, k33, k22] using hg 7 _ rfl
      obtain ⟨z0, e0, _, f0⟩ := DataW.trod_int Try.underlying3 g0
      obtain ⟨z1, e1, _, f1⟩ := DataW.trod_int Try.underlying2 g1
      obtain ⟨z10, e10, _, f10⟩ := DataW.trod_int Try.underlying2 g3
      obtain ⟨z11, e11, _, f11⟩ := DataW.trod_int Try.underlying2 g4
      obtain ⟨xs2, n2, _, _, _, hlen2, hg2⟩ := DataW.trod_struct Try.underlying41 g2
      match xs2, hlen2 with
      | [t0, t1, t2, t3, t4, t5, t6, t7], _ =>
        have a0 : DataW.trod enc Try.prog W 0 (fun _ => true) held n2 3 [c2] = some t0 := by simpa [k2, k3] using hg2 0 _ rfl
        have a1 : DataW.trod enc Try.prog W 0 (fun _ => true) held n2 3 [c3] = some t1 := by simpa [k2, k3] using hg2 1 _ rfl
        have a2 : DataW.trod enc Try.prog W 0 (fun _ => true) held n2 2 [c4] = some t2 := by simpa [k2, k3] using hg2 2 _ rfl
        have a3 : DataW.trod enc Try.prog W 0 (fun _ => true) held n2 3 [c5] = some t3 := by simpa [k2, k3] using hg2 3 _ rfl
        have a4 : DataW.trod enc Try.prog W 0 (fun _ => true) held n2 3 [c6] = some t4 := by simpa [k2, k3] using hg2 4 _ rfl
        have a5 : DataW.trod enc Try.prog W 0 (fun _ => true) held n2 3 [c7] = some t5 := by simpa [k2, k3] using hg2 5 _ rfl
        have a6 : DataW.trod enc Try.prog W 0 (fun _ => true) held n2 3 [c8] = some t6 := by simpa [k2, k3] using hg2 6 _ rfl
        have a7 : DataW.trod enc Try.prog W 0 (fun _ => true) held n2 2 [c9] = some t7 := by simpa [k2, k3] using hg2 7 _ rfl
        obtain ⟨z2, e2, _, f2⟩ := DataW.trod_int Try.underlying3 a0
        obtain ⟨z3, e3, _, f3⟩ := DataW.trod_int Try.underlying3 a1
        obtain ⟨z4, e4, _, f4⟩ := DataW.trod_int Try.underlying2 a2
        obtain ⟨z5, e5, _, f5⟩ := DataW.trod_int Try.underlying3 a3
        obtain ⟨z6, e6, _, f6⟩ := DataW.trod_int Try.underlying3 a4
        obtain ⟨z7, e7, _, f7⟩ := DataW.trod_int Try.underlying3 a5
        obtain ⟨z8, e8, _, f8⟩ := DataW.trod_int Try.underlying3 a6
        obtain ⟨z9, e9, _, f9⟩ := DataW.trod_int Try.underlying2 a7
        obtain ⟨xs3, n3, _, _, _, hlen3, hg3⟩ := DataW.trod_struct Try.underlying43 g6
        match xs3, hlen3 with
        | [s0, s1, s2], _ =>
          have b0 : DataW.trod enc Try.prog W 0 (fun _ => true) held n3 3 [c13] = some s0 := by simpa [k2, k3] using hg3 0 _ rfl
          have b1 : DataW.trod enc Try.prog W 0 (fun _ => true) held n3 2 [c14] = some s1 := by simpa [k2, k3] using hg3 1 _ rfl
          have b2 : DataW.trod enc Try.prog W 0 (fun _ => true) held n3 2 [c15] = some s2 := by simpa [k2, k3] using hg3 2 _ rfl
          obtain ⟨z13, e13, _, f13⟩ := DataW.trod_int Try.underlying3 b0
          obtain ⟨z14, e14, _, f14⟩ := DataW.trod_int Try.underlying2 b1
          obtain ⟨z15, e15, _, f15⟩ := DataW.trod_int Try.underlying2 b2
          obtain ⟨A1, m1, ds, e12, hD, hID⟩ := arg_ints g5
          obtain ⟨A2, m2, bs, e16, hE, hIE⟩ := arg_bytes g7
          simp at e0 e1 e2 e3 e4 e5 e6 e7 e8 e9 e10 e11 e13 e14 e15
          subst e0 e1 e2 e3 e4 e5 e6 e7 e8 e9 e10 e11 e12 e13 e14 e15 e16
          exact ⟨⟨z0, z1, z2, z3, z4, z5, z6, z7, z8, z9, z10, z11, ds, z13, z14, z15, bs⟩, ⟨A1, m1, A2, m2, rfl, hD, hE⟩, ⟨⟨arg_fit f0, arg_fit f1, arg_fit f2, arg_fit f3, arg_fit f4, arg_fit f5, arg_fit f6, arg_fit f7, arg_fit f8, arg_fit f9, arg_fit f10, arg_fit f11, arg_fit f13, arg_fit f14, arg_fit f15⟩, fun d hd => hID d hd, hIE⟩⟩
end
end Go.Proofs.Ytlcgpldngooekaa
