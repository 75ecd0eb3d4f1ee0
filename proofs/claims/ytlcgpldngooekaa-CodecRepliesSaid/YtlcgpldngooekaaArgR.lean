/- A reply as an argument: fourteen cells, three lists. -/
import Derived.Test.YtlcgpldngooekaaArgC
import Derived.Test.YtlcgpldngooekaaRep
namespace Go.Proofs.Ytlcgpldngooekaa
open Go.RowKit Go.ChangeShapes Go.WideShapes Go.Deep Go.Joins
set_option linter.unusedVariables false
set_option maxRecDepth 100000
section
variable {H : Type} {enc : TypeId × Value → H} {W : World} {held : Bool}
theorem arg_word {n : Int} (h : (Lit.int .u64 n).wf = true) : Fit (IntKind.i64.wrap n) ∧ n = U64 (IntKind.i64.wrap n) :=
  ⟨U64.wrap_fit n, (U64.there (bounds_u64 h)).symm⟩
theorem arg_rep {r : Reach} {b0 : Nat} {v : Value} {d : DataW H} {p : List MemPlace} (hv : Value.okWide Try.prog W r b0 65 v) (h : DataW.Trod enc Try.prog W 0 (fun _ => true) held 65 v d p) :
    ∃ x : RepD, HoldsR W W.heap.size v x ∧ x.Ok := by
  have k2 : Try.prog.cellsOf 2 = 1 := by kernel_rfl
  have k33 : Try.prog.cellsOf 33 = 1 := by kernel_rfl
  have k22 : Try.prog.cellsOf 22 = 1 := by kernel_rfl
  have k35 : Try.prog.cellsOf 35 = 1 := by kernel_rfl
  have k54 : Try.prog.cellsOf 54 = 2 := by kernel_rfl
  have k56 : Try.prog.cellsOf 56 = 6 := by kernel_rfl
  have k57 : Try.prog.cellsOf 57 = 1 := by kernel_rfl
  have k59 : Try.prog.cellsOf 59 = 2 := by kernel_rfl
  have k61 : Try.prog.cellsOf 61 = 4 := by kernel_rfl
  have k63 : Try.prog.cellsOf 63 = 11 := by kernel_rfl
  have k65 : Try.prog.cellsOf 65 = 14 := by kernel_rfl
  obtain ⟨cs, rfl, hsz⟩ := okWide_struct Try.underlying65 hv
  obtain ⟨l⟩ := cs
  match l, hsz.trans k65 with
  | [c0, c1, c2, c3, c4, c5, c6, c7, c8, c9, c10, c11, c12, c13], _ =>
    obtain ⟨fuel, hf⟩ := h
    obtain ⟨xs1, n1, _, _, _, hlen1, hg1⟩ := DataW.trod_struct Try.underlying65 hf
    match xs1, hlen1 with
    | [y1_0, y1_1, y1_2, y1_3], _ =>
      have g1_0 : DataW.trod enc Try.prog W 0 (fun _ => true) held n1 35 [c0] = some y1_0 := by simpa [Value.cells, k2, k33, k22, k35, k54, k56, k57, k59, k61, k63] using hg1 0 _ rfl
      have g1_1 : DataW.trod enc Try.prog W 0 (fun _ => true) held n1 63 [c1, c2, c3, c4, c5, c6, c7, c8, c9, c10, c11] = some y1_1 := by simpa [Value.cells, k2, k33, k22, k35, k54, k56, k57, k59, k61, k63] using hg1 1 _ rfl
      have g1_2 : DataW.trod enc Try.prog W 0 (fun _ => true) held n1 33 [c12] = some y1_2 := by simpa [Value.cells, k2, k33, k22, k35, k54, k56, k57, k59, k61, k63] using hg1 2 _ rfl
      have g1_3 : DataW.trod enc Try.prog W 0 (fun _ => true) held n1 22 [c13] = some y1_3 := by simpa [Value.cells, k2, k33, k22, k35, k54, k56, k57, k59, k61, k63] using hg1 3 _ rfl
      obtain ⟨z0, e0, _, f0⟩ := DataW.trod_int Try.underlying35 g1_0
      obtain ⟨xs2, n2, _, _, _, hlen2, hg2⟩ := DataW.trod_struct Try.underlying63 g1_1
      match xs2, hlen2 with
      | [y2_0, y2_1, y2_2], _ =>
        have g2_0 : DataW.trod enc Try.prog W 0 (fun _ => true) held n2 56 [c1, c2, c3, c4, c5, c6] = some y2_0 := by simpa [k2, k33, k22, k35, k54, k56, k57, k59, k61, k63] using hg2 0 _ rfl
        have g2_1 : DataW.trod enc Try.prog W 0 (fun _ => true) held n2 33 [c7] = some y2_1 := by simpa [k2, k33, k22, k35, k54, k56, k57, k59, k61, k63] using hg2 1 _ rfl
        have g2_2 : DataW.trod enc Try.prog W 0 (fun _ => true) held n2 61 [c8, c9, c10, c11] = some y2_2 := by simpa [k2, k33, k22, k35, k54, k56, k57, k59, k61, k63] using hg2 2 _ rfl
        obtain ⟨xs3, n3, _, _, _, hlen3, hg3⟩ := DataW.trod_struct Try.underlying56 g2_0
        match xs3, hlen3 with
        | [y3_0, y3_1, y3_2], _ =>
          have g3_0 : DataW.trod enc Try.prog W 0 (fun _ => true) held n3 54 [c1, c2] = some y3_0 := by simpa [k2, k33, k22, k35, k54, k56, k57, k59, k61, k63] using hg3 0 _ rfl
          have g3_1 : DataW.trod enc Try.prog W 0 (fun _ => true) held n3 54 [c3, c4] = some y3_1 := by simpa [k2, k33, k22, k35, k54, k56, k57, k59, k61, k63] using hg3 1 _ rfl
          have g3_2 : DataW.trod enc Try.prog W 0 (fun _ => true) held n3 54 [c5, c6] = some y3_2 := by simpa [k2, k33, k22, k35, k54, k56, k57, k59, k61, k63] using hg3 2 _ rfl
          obtain ⟨xs4, n4, _, _, _, hlen4, hg4⟩ := DataW.trod_struct Try.underlying54 g3_0
          match xs4, hlen4 with
          | [y4_0, y4_1], _ =>
            have g4_0 : DataW.trod enc Try.prog W 0 (fun _ => true) held n4 2 [c1] = some y4_0 := by simpa [k2, k33, k22, k35, k54, k56, k57, k59, k61, k63] using hg4 0 _ rfl
            have g4_1 : DataW.trod enc Try.prog W 0 (fun _ => true) held n4 2 [c2] = some y4_1 := by simpa [k2, k33, k22, k35, k54, k56, k57, k59, k61, k63] using hg4 1 _ rfl
            obtain ⟨z1, e1, _, f1⟩ := DataW.trod_int Try.underlying2 g4_0
            obtain ⟨z2, e2, _, f2⟩ := DataW.trod_int Try.underlying2 g4_1
            obtain ⟨xs5, n5, _, _, _, hlen5, hg5⟩ := DataW.trod_struct Try.underlying54 g3_1
            match xs5, hlen5 with
            | [y5_0, y5_1], _ =>
              have g5_0 : DataW.trod enc Try.prog W 0 (fun _ => true) held n5 2 [c3] = some y5_0 := by simpa [k2, k33, k22, k35, k54, k56, k57, k59, k61, k63] using hg5 0 _ rfl
              have g5_1 : DataW.trod enc Try.prog W 0 (fun _ => true) held n5 2 [c4] = some y5_1 := by simpa [k2, k33, k22, k35, k54, k56, k57, k59, k61, k63] using hg5 1 _ rfl
              obtain ⟨z3, e3, _, f3⟩ := DataW.trod_int Try.underlying2 g5_0
              obtain ⟨z4, e4, _, f4⟩ := DataW.trod_int Try.underlying2 g5_1
              obtain ⟨xs6, n6, _, _, _, hlen6, hg6⟩ := DataW.trod_struct Try.underlying54 g3_2
              match xs6, hlen6 with
              | [y6_0, y6_1], _ =>
                have g6_0 : DataW.trod enc Try.prog W 0 (fun _ => true) held n6 2 [c5] = some y6_0 := by simpa [k2, k33, k22, k35, k54, k56, k57, k59, k61, k63] using hg6 0 _ rfl
                have g6_1 : DataW.trod enc Try.prog W 0 (fun _ => true) held n6 2 [c6] = some y6_1 := by simpa [k2, k33, k22, k35, k54, k56, k57, k59, k61, k63] using hg6 1 _ rfl
                obtain ⟨z5, e5, _, f5⟩ := DataW.trod_int Try.underlying2 g6_0
                obtain ⟨z6, e6, _, f6⟩ := DataW.trod_int Try.underlying2 g6_1
                obtain ⟨A7, m7, l7, e7, hS7, hI7⟩ := arg_ints g2_1
                obtain ⟨xs7, n7, _, _, _, hlen7, hg7⟩ := DataW.trod_struct Try.underlying61 g2_2
                match xs7, hlen7 with
                | [y7_0, y7_1], _ =>
                  have g7_0 : DataW.trod enc Try.prog W 0 (fun _ => true) held n7 59 [c8, c9] = some y7_0 := by simpa [k2, k33, k22, k35, k54, k56, k57, k59, k61, k63] using hg7 0 _ rfl
                  have g7_1 : DataW.trod enc Try.prog W 0 (fun _ => true) held n7 59 [c10, c11] = some y7_1 := by simpa [k2, k33, k22, k35, k54, k56, k57, k59, k61, k63] using hg7 1 _ rfl
                  obtain ⟨xs8, n8, _, _, _, hlen8, hg8⟩ := DataW.trod_struct Try.underlying59 g7_0
                  match xs8, hlen8 with
                  | [y8_0, y8_1], _ =>
                    have g8_0 : DataW.trod enc Try.prog W 0 (fun _ => true) held n8 57 [c8] = some y8_0 := by simpa [k2, k33, k22, k35, k54, k56, k57, k59, k61, k63] using hg8 0 _ rfl
                    have g8_1 : DataW.trod enc Try.prog W 0 (fun _ => true) held n8 57 [c9] = some y8_1 := by simpa [k2, k33, k22, k35, k54, k56, k57, k59, k61, k63] using hg8 1 _ rfl
                    obtain ⟨z8, e8, _, f8⟩ := DataW.trod_int Try.underlying57 g8_0
                    obtain ⟨z9, e9, _, f9⟩ := DataW.trod_int Try.underlying57 g8_1
                    obtain ⟨xs9, n9, _, _, _, hlen9, hg9⟩ := DataW.trod_struct Try.underlying59 g7_1
                    match xs9, hlen9 with
                    | [y9_0, y9_1], _ =>
                      have g9_0 : DataW.trod enc Try.prog W 0 (fun _ => true) held n9 57 [c10] = some y9_0 := by simpa [k2, k33, k22, k35, k54, k56, k57, k59, k61, k63] using hg9 0 _ rfl
                      have g9_1 : DataW.trod enc Try.prog W 0 (fun _ => true) held n9 57 [c11] = some y9_1 := by simpa [k2, k33, k22, k35, k54, k56, k57, k59, k61, k63] using hg9 1 _ rfl
                      obtain ⟨z10, e10, _, f10⟩ := DataW.trod_int Try.underlying57 g9_0
                      obtain ⟨z11, e11, _, f11⟩ := DataW.trod_int Try.underlying57 g9_1
                      obtain ⟨A12, m12, l12, e12, hS12, hI12⟩ := arg_ints g1_2
                      obtain ⟨A13, m13, l13, e13, hS13, hI13⟩ := arg_bytes g1_3
                      simp at e0 e1 e2 e3 e4 e5 e6 e8 e9 e10 e11
                      obtain ⟨fw8, ew8⟩ := arg_word f8
                      rw [ew8] at e8
                      obtain ⟨fw9, ew9⟩ := arg_word f9
                      rw [ew9] at e9
                      obtain ⟨fw10, ew10⟩ := arg_word f10
                      rw [ew10] at e10
                      obtain ⟨fw11, ew11⟩ := arg_word f11
                      rw [ew11] at e11
                      subst e0 e1 e2 e3 e4 e5 e6 e7 e8 e9 e10 e11 e12 e13
                      exact ⟨⟨z0, z1, z2, z3, z4, z5, z6, l7, IntKind.i64.wrap z8, IntKind.i64.wrap z9, IntKind.i64.wrap z10, IntKind.i64.wrap z11, l12, l13⟩, ⟨A7, m7, A12, m12, A13, m13, rfl, hS7, hS12, hS13⟩, ⟨⟨arg_fit f0, arg_fit f1, arg_fit f2, arg_fit f3, arg_fit f4, arg_fit f5, arg_fit f6, fw8, fw9, fw10, fw11⟩, fun d hd => hI7 d hd, fun d hd => hI12 d hd, hI13⟩⟩
end
end Go.Proofs.Ytlcgpldngooekaa
