/- The walk of the law on reading: it returns true. | The walk of the law on written codes: it returns true. -/
import Derived.Test.YtlcgpldngooekaaRead
import Derived.OpenShut
import Derived.Test.YtlcgpldngooekaaApp2
import Derived.Test.YtlcgpldngooekaaVK
namespace Go.Proofs.Ytlcgpldngooekaa
open Go.RowKit Go.ChangeShapes Go.WideShapes
set_option linter.unusedVariables false
theorem row_bytes {w : World} {a : Option Addr} {len cap : Nat} {z : List Int} (w0 : IsRow .u8 w a len cap z) :
    Sl w w.heap.size a len ((z.take len).map (Value.int .u8)) ∧ Bytes (z.take len) ∧ len ≤ cap ∧ (z.take len).length = len ∧ cap ≤ 9223372036854775807 := by
  obtain ⟨hsl, hwf, hlc, hcm, hzl⟩ := w0.sl
  exact ⟨hsl, fun y hy => by have := bounds_u8 (hwf y hy); omega, hlc, hzl, hcm⟩
theorem bytes5 : Try.prog.bytesOf 5 = 1 := by kernel_rfl
set_option maxRecDepth 100000 in
theorem codecReads_walk (A : Option Addr) (len0 cap0 : Nat) (z : List Int) (at_ : Int) (w : World) (w0 : IsRow .u8 w A len0 cap0 z) (hcap0 : cap0 * Try.prog.bytesOf 5 ≤ 140737488351232) (w1 : (Lit.int .i64 at_).wf = true) :
    Calls Try.prog 4 #[.slice A len0 cap0, .int .i64 at_] w fun e w' => e = .returned (.bool true) ∧ Below w.heap.size w w' := by
  obtain ⟨hsl, hby, hlc, hzl, hcm⟩ := row_bytes w0
  have hcap : cap0 ≤ 140737488351232 := by rw [bytes5] at hcap0; omega
  have C4 := hide awake_any
  have C1 := hide (cread_any A len0 cap0 w.heap.size at_ (z.take len0) w hsl hby (by omega))
  have C2 := hide (rread_any A len0 cap0 w.heap.size at_ (z.take len0) w hsl hby (by omega))
  clear w0 w1 hsl hby hlc hzl hcm hcap hcap0
  unfold ReadEnd at C1 C2
  generalize readV (z.take len0) at_ = r at *
  obtain ⟨r1, r2, r3⟩ := r
  go_enter Try.func4, Try.ntmps4
  go_wp2_with (first | (go_at_call 16; refine C1.out.mono ?_; rintro e w' ⟨rfl, rfl⟩) | (go_at_call 17; refine C2.out.mono ?_; rintro e w' ⟨rfl, rfl⟩) | (go_at_call 12; refine (C4.out _).mono ?_; rintro e w' ⟨rfl, hb1⟩))
  go_ret
  exact ⟨rfl, hb1⟩
end Go.Proofs.Ytlcgpldngooekaa
namespace Go.Proofs.Ytlcgpldngooekaa
open Go.RowKit Go.ChangeShapes Go.WideShapes
set_option linter.unusedVariables false
theorem code_bytes {l : List Int} {n : Int} (h : Bytes l) (hn : -9223372036854775808 ≤ n ∧ n ≤ 9223372036854775807) : Bytes (l ++ codeN n) := by
  intro x hx
  rcases List.mem_append.1 hx with hx | hx
  · exact h x hx
  · exact codeN_bytes hn x hx
set_option maxRecDepth 100000 in
theorem codecAppends_walk (A : Option Addr) (len0 cap0 : Nat) (z : List Int) (n : Int) (w : World) (w0 : IsRow .u8 w A len0 cap0 z) (w1 : (Lit.int .i64 n).wf = true) :
    Calls Try.prog 5 #[.slice A len0 cap0, .int .i64 n] w fun e w' => e = .returned (.bool true) ∧ Below w.heap.size w w' := by
  obtain ⟨hsl, hby, hlc, hzl, hcm⟩ := row_bytes w0
  have hn := bounds_i64 w1
  have C4 := hide awake_any
  clear w0 w1 hlc hcm
  generalize z.take len0 = l at *
  by_cases h500 : 500 < len0
  · clear hsl hby hzl hn
    go_enter Try.func5, Try.ntmps5
    go_wp2_with (go_at_call 12; refine (C4.out _).mono ?_; rintro e w' ⟨rfl, hb1⟩)
    go_ret
    exact ⟨rfl, hb1⟩
  · have hcb := code_bytes hby hn
    have hcl := codeN_len n
    have C1 := hide (capp_any A len0 cap0 l n w hsl hn (by omega))
    have C2 := hide (fun w1 (hb : Below w.heap.size w w1) => rapp_any A len0 cap0 l n w1 ((hsl.below hb).more hb.size) hn (by omega))
    have hrd := readV_code hn l []
    rw [List.append_nil, hzl] at hrd
    have hll : (l ++ codeN n).length = len0 + (codeN n).length := by rw [List.length_append, hzl]
    have HB := hide hcb
    have HR := hide hrd
    have HLL := hide hll
    have HS := hide hsl
    clear hsl hby hzl hcb hrd hll hn
    unfold NewEnd at C1 C2
    generalize l ++ codeN n = y at *
    generalize (codeN n).length = q at *
    generalize hY : y.length = L at *
    have HY := hide hY
    clear hY
    have hLb : L ≤ 510 := by have := HLL.out; omega
    go_enter Try.func5, Try.ntmps5
    go_wp2_with fail
    refine C1.out.mono ?_
    rintro e w1 ⟨A1, c1, rfl, hown1, hb1⟩
    have HO1 := hide hown1
    have HB1 := hide hb1
    have hs1 : Sl w1 w1.heap.size A1 L (y.map (Value.int .u8)) := Sl.of_own hown1
    have c3 := cread_any A1 L c1 _ len0 y w1 hs1 HB.out (by omega)
    have HS1 := hide hs1
    unfold ReadEnd at c3
    rw [HR.out] at c3
    have C3 := hide c3
    clear hown1 hb1 c3 hs1
    go_wp2_with fail
    refine C3.out.mono ?_
    rintro e w2 ⟨rfl, rfl⟩
    go_wp2_with fail
    refine (C2.out _ HB1.out).mono ?_
    rintro e w2 ⟨A2, c2, rfl, hown2, hb2⟩
    have HB2 := hide hb2
    have c5 := same_bytes A1 A2 L c1 _ L c2 _ y y w2 (HS1.out.below hb2) HB.out (Sl.of_own hown2) HB.out
    unfold EqEnd at c5
    rw [decide_eq_true rfl] at c5
    have C5 := hide c5
    have hLL : (len0 : Int) + q = L := by have := HLL.out; omega
    clear hown2 hb2 c5
    go_wp2_with fail
    refine C5.out.mono ?_
    rintro e w3 ⟨rfl, rfl⟩
    go_wp2_with (go_at_call 12; refine (C4.out _).mono ?_; rintro e w' ⟨rfl, hb3⟩)
    go_ret
    have hb4 := HB1.out.trans (HB2.out.mono HB1.out.size)
    exact ⟨rfl, hb4.trans (hb3.mono hb4.size)⟩
end Go.Proofs.Ytlcgpldngooekaa
