/- The contracts of the writers of one number behind a copy of the bytes before it. -/
import Derived.Test.YtlcgpldngooekaaApp
namespace Go.Proofs.Ytlcgpldngooekaa
open Go.RowKit
set_option linter.unusedVariables false
def NewEnd (ys : List Int) (w : World) (e : Ending) (w' : World) : Prop :=
  ∃ A c, e = .returned (.slice A ys.length c) ∧ w'.ownsRow w.heap.size 5 1 (.slice A ys.length c) ys.length (ys.map (Value.int .u8)) ∧ Below w.heap.size w w'
set_option maxRecDepth 100000 in
theorem capp_any (A : Option Addr) (n c : Nat) (l : List Int) (m : Int) (w : World) (h : Sl w w.heap.size A n (l.map (Value.int .u8))) (hm : -9223372036854775808 ≤ m ∧ m ≤ 9223372036854775807) (hn : n ≤ 70368744177664) :
    Calls Try.prog 18 #[.slice A n c, .int .i64 m] w (NewEnd (l ++ codeN m) w) := by
  obtain ⟨i0, hi, hz0, hz1, hz2⟩ := info_parts infoB
  have HL := hide h.len
  have H := hide h
  have HM := hide hm
  clear h hm
  go_enter Try.func18, Try.ntmps18
  go_wp2_with (at_builtin; refine wpList_append_sl _ rfl (.tmp 5) (.tmp 6) 22 rfl w.heap.size 5 i0 (.int .u8 0) 1 Try.underlying22 hi hz0 hz1 hz2 rfl (.slice (some ⟨w.heap.size, 0, none⟩) 0 0) 0 [] rfl (ownEmpty w 5) w.heap.size A n c (l.map (Value.int .u8)) rfl (H.out.alloc (Nat.le_refl _) _) (ints_one _ _) (by simp only [maxLen]; omega) (by omega) (by simp) ?_; intro v1 w1 hown1 hg1 hat1)
  have hb1 : Below w.heap.size w w1 := ((Below.refl _ _).alloc (Nat.le_refl _) _).grown hg1 (by simp) (by intro q hq; simp [Value.ownBlock] at hq; omega)
  simp only [Nat.zero_add, List.nil_append] at hown1
  obtain ⟨A2, c2, hv, _, _⟩ := own_slice hown1
  subst hv
  have hlt := hown1.lt
  have hown2 : w1.ownsRow w.heap.size 5 1 (.slice A2 l.length c2) l.length (l.map (Value.int .u8)) := by rw [HL.out]; exact hown1
  have c1 := tapp_any w.heap.size A2 c2 l m w1 hown2 hb1.size HM.out (by have := HL.out; omega)
  rw [HL.out] at c1
  have C1 := hide c1
  have HB1 := hide hb1
  have HLT := hide hlt
  clear c1 hown1 hown2 hg1 hat1 hb1 hlt
  go_wp2_with (fail)
  refine C1.out.mono ?_
  rintro e w2 ⟨A3, c3, rfl, hown3, hmv⟩
  have hb2 := hmv.below HB1.out.size (fun k hk => (HLT.out k hk).1)
  have HO3 := hide hown3
  have HB2 := hide hb2
  clear hown3 hb2 hmv
  go_wp2
  go_ret
  exact ⟨A3, c3, by rw [List.length_append]; rfl, HO3.out, HB1.out.trans HB2.out⟩
set_option maxRecDepth 100000 in
set_option maxHeartbeats 400000 in
theorem rapp_any (A : Option Addr) (n c : Nat) (xs : List Int) (m : Int) (w : World) (h : Sl w w.heap.size A n (xs.map (Value.int .u8)))
    (hm : -9223372036854775808 ≤ m ∧ m ≤ 9223372036854775807) (hn : n ≤ 70368744177664) :
    Calls Try.prog 20 #[.slice A n c, .int .i64 m] w (NewEnd (xs ++ codeN m) w) := by
  obtain ⟨i0, hi, hz0, hz1, hz2⟩ := info_parts infoB
  have hz := zig_pow hm
  have hlen := codeN_len m
  have hx : xs.length ≤ 70368744177664 := by have := h.len; omega
  have HL0 := hide h.len
  have H := hide h
  have HC := hide (show codeN m = [] ++ codeF 9 (zig m) from rfl)
  have hzu : zig m = m * 2 ∨ m < 0 := by unfold zig; split <;> omega
  have hzb := zig_bd hm
  clear h
  generalize hU : zig m = U at *
  rcases (show m < 0 ∨ 0 ≤ m by omega) with hneg | hneg
  all_goals
    try (have hxor := zig_xor m hm.1 hneg; rw [hU] at hxor)
    have HU := hide hU
    clear hU
    go_enter Try.func20, Try.ntmps20
    go_wp2_with (at_builtin; refine wpList_append_sl _ rfl (.tmp 14) (.tmp 15) 22 rfl w.heap.size 5 i0 (.int .u8 0) 1 Try.underlying22 hi hz0 hz1 hz2 rfl (.slice (some ⟨w.heap.size, 0, none⟩) 0 0) 0 [] rfl (ownEmpty w 5) w.heap.size A n c (xs.map (Value.int .u8)) rfl (H.out.alloc (Nat.le_refl _) _) (ints_one _ _) (by simp only [maxLen]; omega) (by omega) (by simp) ?_; intro v0 w0 hown0 hg0 hat0)
    have hb0 : Below w.heap.size w w0 := ((Below.refl _ _).alloc (Nat.le_refl _) _).grown hg0 (by simp) (by intro q hq; simp [Value.ownBlock] at hq; omega)
    simp only [Nat.zero_add, List.nil_append] at hown0
    obtain ⟨A0, c0, hv0, _, _⟩ := own_slice hown0
    subst hv0
    rw [← HL0.out] at hown0
    have HO := hide hown0
    have HB0 := hide hb0
    clear hown0 hb0 hg0 hat0
    go_loopw [6, 5] (fun v x wr => ∃ (pre : List Int) (f : Nat) (u : Int) (A1 : Option Addr) (c1 : Nat), codeN m = pre ++ codeF f u ∧ 0 ≤ u ∧ u ≤ 18446744073709551615 ∧ u < 128 ^ (f + 1) ∧ x = .int .u64 u ∧ v = .slice A1 (xs ++ pre).length c1 ∧ wr.ownsRow w.heap.size 5 1 (.slice A1 (xs ++ pre).length c1) (xs ++ pre).length ((xs ++ pre).map (Value.int .u8)) ∧ Below w.heap.size w wr) (fun _ x _ => (intOf x).toNat)
    case atStart => exact ⟨[], 9, U, A0, c0, by rw [HC.out], hzb.1, hzb.2, hz.2.1, by first | rfl | (congr 1; omega), by rw [List.append_nil, HL0.out], by simpa using HO.out, HB0.out⟩
    case round =>
      obtain ⟨pre, f, u, A1, c1, hcode, hu0, hu1, hup, rfl, rfl, hown, hmv⟩ := hrel
      have hpl : pre.length ≤ 10 := by have := congrArg List.length hcode; rw [List.length_append] at this; omega
      have hand := and127 u hu0 hu1
      have hor := or128m u
      have HCO := hide hcode
      have HOW := hide hown
      have HMV := hide hmv
      have hsz := hmv.size
      have hxl : (xs ++ pre).length = xs.length + pre.length := List.length_append
      clear hcode hown hmv
      generalize hL : (xs ++ pre).length = L at *
      have HL := hide hL
      have hLb : L ≤ 70368744177664 + 10 := by omega
      have HXL := hide hxl
      clear hxl
      clear hL
      try clear hxor
      by_cases h128 : 128 ≤ u
      · obtain ⟨g, rfl, hup2⟩ := code_pow hup h128
        have hcs := code_step (g := g) h128
        have HCS := hide hcs
        clear hcs hup
        go_wp2_with (at_builtin; refine wpList_append_sl _ rfl (.tmp 19) (.tmp 24) 22 rfl w.heap.size 5 i0 (.int .u8 0) 1 Try.underlying22 hi hz0 hz1 hz2 rfl (.slice A1 L c1) L ((xs ++ pre).map (Value.int .u8)) rfl (HOW.out.alloc _) (wr.heap.size + 1) (some ⟨wr.heap.size, 0, none⟩) 1 1 [.int .u8 (u % 128 + 128)] rfl (Sl.one _ _ _) (by intro y hy; simp at hy; subst hy; rfl) (by simp only [maxLen]; omega) (by omega) (by have := HMV.out.size; simp; omega) ?_; intro v1 w1 hown1 hg1 hat1)
        obtain ⟨A2, c2, hv, _, _⟩ := own_slice hown1
        subst hv
        have hl2 : (xs ++ (pre ++ [u % 128 + 128])).length = L + 1 := by have := HXL.out; simp; omega
        have hown2 : w1.ownsRow w.heap.size 5 1 (.slice A2 (xs ++ (pre ++ [u % 128 + 128])).length c2) (xs ++ (pre ++ [u % 128 + 128])).length ((xs ++ (pre ++ [u % 128 + 128])).map (Value.int .u8)) := by
          rw [hl2]; simpa using hown1
        have hmv2 : Below w.heap.size w w1 := (HMV.out.alloc HMV.out.size _).grown hg1 (by have := HMV.out.size; simp; omega) (fun k hk => (HOW.out.lt k hk).1)
        clear hor hand
        go_roundw
        case rel => exact ⟨pre ++ [u % 128 + 128], g, u / 128, A2, c2, by rw [HCO.out, HCS.out]; simp, by omega, by omega, hup2, rfl, by rw [hl2], hown2, hmv2⟩
        case measure => simp [intOf]; omega
      · have hcl := code_last (f := f) (u := u) (by omega)
        have HCL := hide (show codeN m = pre ++ [u] by rw [HCO.out, hcl])
        clear hcl hup hor hand
        go_wp2_with (at_builtin; refine wpList_append_sl _ rfl (.tmp 28) (.tmp 31) 22 rfl w.heap.size 5 i0 (.int .u8 0) 1 Try.underlying22 hi hz0 hz1 hz2 rfl (.slice A1 L c1) L ((xs ++ pre).map (Value.int .u8)) rfl (HOW.out.alloc _) (wr.heap.size + 1) (some ⟨wr.heap.size, 0, none⟩) 1 1 [.int .u8 u] rfl (Sl.one _ _ _) (by intro y hy; simp at hy; subst hy; rfl) (by simp only [maxLen]; omega) (by omega) (by have := HMV.out.size; simp; omega) ?_; intro v1 w1 hown1 hg1 hat1)
        obtain ⟨A2, c2, hv, _, _⟩ := own_slice hown1
        subst hv
        have hl2 : (xs ++ codeN m).length = L + 1 := by have := HXL.out; rw [HCL.out]; simp; omega
        go_ret
        refine ⟨A2, c2, by rw [hl2]; rfl, ?_, ?_⟩
        · rw [hl2, HCL.out]; simpa using hown1
        · exact (HMV.out.alloc HMV.out.size _).grown hg1 (by have := HMV.out.size; simp; omega) (fun k hk => (HOW.out.lt k hk).1)
end Go.Proofs.Ytlcgpldngooekaa
