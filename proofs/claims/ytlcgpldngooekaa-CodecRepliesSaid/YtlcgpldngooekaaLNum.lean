/- The walk of the law on lists of numbers: it returns true. -/
import Derived.Test.YtlcgpldngooekaaVC
import Derived.Test.YtlcgpldngooekaaSameN
import Derived.Test.YtlcgpldngooekaaVK
import Derived.Test.YtlcgpldngooekaaVJ
import Derived.OpenShut
namespace Go.Proofs.Ytlcgpldngooekaa
open Go.RowKit Go.ChangeShapes Go.WideShapes
set_option linter.unusedVariables false
theorem row_ints {w : World} {a : Option Addr} {len cap : Nat} {z : List Int} (w0 : IsRow .i64 w a len cap z) :
    Sl w w.heap.size a len ((z.take len).map (Value.int .i64)) ∧ Ints (z.take len) := by
  obtain ⟨hsl, hwf, hlc, hcm, hzl⟩ := w0.sl
  exact ⟨hsl, fun y hy => by have := bounds_i64 (hwf y hy); omega⟩
set_option maxRecDepth 100000 in
set_option maxHeartbeats 400000 in
theorem codecNumbers_walk (A : Option Addr) (len0 cap0 : Nat) (z : List Int) (A1 : Option Addr) (len1 cap1 : Nat) (z1 : List Int) (w : World) (w0 : IsRow .i64 w A len0 cap0 z) (w1 : IsRow .u8 w A1 len1 cap1 z1) :
    Calls Try.prog 7 #[.slice A len0 cap0, .slice A1 len1 cap1] w fun e w' => e = .returned (.bool true) ∧ Below w.heap.size w w' := by
  obtain ⟨hn, hi⟩ := row_ints w0
  obtain ⟨hb, hy, _, _, _⟩ := row_bytes w1
  have C4 := hide awake_any
  clear w0 w1
  generalize z.take len0 = l at *
  generalize z1.take len1 = b at *
  by_cases h3 : 300 < len0
  · clear hn hi hb hy
    go_enter Try.func7, Try.ntmps7
    go_wp2_with (go_at_call 12; refine (C4.out _).mono ?_; rintro e w' ⟨rfl, hb1⟩)
    go_ret
    exact ⟨rfl, hb1⟩
  · by_cases h20 : 2000 < len1
    · clear hn hi hb hy
      go_enter Try.func7, Try.ntmps7
      go_wp2_with (go_at_call 12; refine (C4.out _).mono ?_; rintro e w' ⟨rfl, hb1⟩)
      go_ret
      exact ⟨rfl, hb1⟩
    · have hl := hn.len
      have hbl := hb.len
      have hwl := (writeL_len l).1
      have hwy := writeL_bytes hi
      have HN := hide hn
      have HI := hide hi
      have HBS := hide hb
      have HY := hide hy
      have HWY := hide hwy
      have C1 := hide (write_any A len0 cap0 l w hn hi (by omega))
      have HV := hide (numsV_writeL hi)
      clear hn hi hb hy hwy
      generalize hW : writeL l = y at *
      have HW := hide hW
      clear hW
      generalize hL : y.length = L at *
      have HL := hide hL
      clear hL
      go_enter Try.func7, Try.ntmps7
      go_wp2_with (fail)
      refine C1.out.mono ?_
      rintro e w1 ⟨A2, c2, rfl, hown1, hb1⟩
      have hs2 := Sl.of_own hown1
      have c22 := nums_any A2 L c2 y w1 hs2 HWY.out (by omega)
      have HB1 := hide hb1
      have HS2 := hide hs2
      have C22 := hide c22
      clear hown1 hb1 hs2 c22
      go_wp2_with (fail)
      refine C22.out.mono ?_
      rintro e w2 ⟨A3, n3, c3, rfl, hs3, hn3, hb2⟩
      rw [HV.out] at hs3 ⊢
      rw [HL.out] at hn3
      dsimp only at hs3 ⊢
      have hb12 := HB1.out.trans (hb2.mono HB1.out.size)
      have c22 := nums_any A1 len1 cap1 b w2 ((HBS.out.below hb12).more hb12.size) HY.out (by omega)
      have C22b := hide c22
      have HB2 := hide hb2
      have HB12 := hide hb12
      have HS3 := hide hs3
      clear hb2 hb12 c22 hs3
      go_wp2_with (fail)
      refine C22b.out.mono ?_
      rintro e w3 ⟨A4, n4, c4, rfl, hs4, hn4, hb3⟩
      have hb13 := HB12.out.trans (hb3.mono HB12.out.size)
      have c23 := rnums_any A1 len1 cap1 b w3 ((HBS.out.below hb13).more hb13.size) HY.out (by omega)
      have C23 := hide c23
      have HB3 := hide hb3
      have HB13 := hide hb13
      have HS4 := hide hs4
      clear hb3 hb13 c23 hs4
      generalize hV : numsV b = vv at *
      obtain ⟨vs, k⟩ := vv
      go_wp2_with (fail)
      refine C23.out.mono ?_
      rintro e w4 ⟨A5, n5, c5, rfl, hs5, hn5, hb4⟩
      rw [hV] at hs5 ⊢
      dsimp only at hs5 ⊢
      have hb14 := HB13.out.trans (hb4.mono HB13.out.size)
      have c24 := rwrite_any A len0 cap0 l w4 ((HN.out.below hb14).more hb14.size) HI.out (by omega)
      rw [HW.out, HL.out] at c24
      have C24 := hide c24
      have HB4 := hide hb4
      have HB14 := hide hb14
      have HS5 := hide hs5
      have HV2 := hide hV
      clear hb4 hb14 c24 hs5 hV
      go_wp2_with (fail)
      refine C24.out.mono ?_
      rintro e w5 ⟨A6, c6, rfl, hown6, hb5⟩
      have hs6 := Sl.of_own hown6
      have hb35 := (HB2.out.trans (HB3.out.mono HB2.out.size)).trans ((HB4.out.mono (by have := HB2.out.size; have := HB3.out.size; omega)).trans (hb5.mono (by have := HB2.out.size; have := HB3.out.size; have := HB4.out.size; omega)))
      have c19 := same_bytes A2 A6 L c2 _ L c6 _ y y w5 (HS2.out.below hb35) HWY.out hs6 HWY.out
      unfold EqEnd at c19
      rw [decide_eq_true rfl] at c19
      have C19 := hide c19
      have HB5 := hide hb5
      clear hown6 hb5 hs6 hb35 c19
      go_wp2_with (fail)
      refine C19.out.mono ?_
      rintro e w6 ⟨rfl, rfl⟩
      have hb25 := HB3.out.trans ((HB4.out.mono HB3.out.size).trans (HB5.out.mono (by have := HB3.out.size; have := HB4.out.size; omega)))
      have hb15 := HB14.out.trans (HB5.out.mono HB14.out.size)
      have c25 := same_any A3 A n3 c3 _ len0 cap0 _ l l w5 (HS3.out.below hb25) (by omega) (HN.out.below hb15) (by omega)
      unfold SameEnd at c25
      rw [decide_eq_true rfl] at c25
      have C25 := hide c25
      have HB15 := hide hb15
      clear hb25 hb15 c25
      go_wp2_with (fail)
      refine C25.out.mono ?_
      rintro e w7 ⟨rfl, q, rfl⟩
      have hb34 := HB4.out.trans (HB5.out.mono HB4.out.size)
      have c25 := same_any A4 A5 n4 c4 _ n5 c5 _ vs vs (w5.drewN q) ((HS4.out.below hb34).drewN q) (by omega) ((HS5.out.below HB5.out).drewN q) (by omega)
      unfold SameEnd at c25
      rw [decide_eq_true rfl] at c25
      have C25b := hide c25
      clear hb34 c25
      go_wp2_with (fail)
      refine C25b.out.mono ?_
      rintro e w8 ⟨rfl, q2, rfl⟩
      go_wp2_with (go_at_call 12; refine (C4.out _).mono ?_; rintro e w' ⟨rfl, hb9⟩)
      have hb9' : Below w.heap.size w w' := (below_drewN HB15.out (q + q2)).trans (hb9.mono HB15.out.size)
      go_ret
      exact ⟨rfl, hb9'⟩
end Go.Proofs.Ytlcgpldngooekaa
