/- The contracts of the writers of one number. -/
import Derived.Test.YtlcgpldngooekaaSum
import Derived.Test.YtlcgpldngooekaaVA
namespace Go.Proofs.Ytlcgpldngooekaa
open Go.RowKit
set_option linter.unusedVariables false
theorem infoB : (Try.prog.info? 5).map (fun i => (i.zero, i.size, i.bytes)) = some (some (.int .u8 0), 1, 1) := by kernel_rfl
theorem ownEmpty (w : World) (e : TypeId) : (w.alloc (.cells #[] e)).ownsRow w.heap.size e 1 (.slice (some ⟨w.heap.size, 0, none⟩) 0 0) 0 [] :=
  ⟨rfl, .inr ⟨w.heap.size, 0, #[], rfl, Nat.le_refl _, heap_alloc_new w _, Nat.le_refl _, Nat.zero_le _, rfl, rfl⟩⟩
/-- from w to w': row v may have been written; v' is the same row or a new one -/
def Moved (w w' : World) (v v' : Value) : Prop := w.grownBy w' v.ownBlock ∧ (v'.ownBlock = v.ownBlock ∨ ∃ g, v'.ownBlock = some g ∧ w.heap.size ≤ g)
theorem Moved.refl (w : World) (v : Value) : Moved w w v v := ⟨World.grownBy.refl _ _, .inl rfl⟩
theorem Moved.trans {a b c : World} {v v' v'' : Value} (h : Moved a b v v') (k : Moved b c v' v'') : Moved a c v v'' := by
  obtain ⟨h1, h2⟩ := h
  obtain ⟨k1, k2⟩ := k
  refine ⟨⟨k1.os.trans h1.os, k1.tape.trans h1.tape, k1.output.trans h1.output, Nat.le_trans h1.size k1.size, fun i hi hne => ?_⟩, ?_⟩
  · have hs := h1.size
    refine (k1.block i (by omega) ?_).trans (h1.block i hi hne)
    rcases h2 with h2 | ⟨g, h2, hg⟩
    · rw [h2]; exact hne
    · rw [h2]; intro c; injection c with c; omega
  · rcases k2 with k2 | ⟨g, k2, hg⟩
    · rcases h2 with h2 | ⟨g, h2, hg⟩
      · exact .inl (k2.trans h2)
      · exact .inr ⟨g, k2.trans h2, hg⟩
    · exact .inr ⟨g, k2, Nat.le_trans h1.size hg⟩
theorem Moved.alloc (w : World) (v : Value) (o : Obj) : Moved w (w.alloc o) v v := ⟨World.grownBy_alloc w o _, .inl rfl⟩
theorem Moved.step {w w' : World} {v v' : Value} {o : Obj} (hg : (w.alloc o).grownBy w' v.ownBlock) (ha : v'.ownBlock = v.ownBlock ∨ v'.ownBlock = some (w.alloc o).heap.size) : Moved w w' v v' :=
  (Moved.alloc w v o).trans ⟨hg, ha.elim .inl fun ha => .inr ⟨_, ha, Nat.le_refl _⟩⟩
theorem Moved.below {w w' : World} {v v' : Value} {B : Nat} (h : Moved w w' v v') (hB : B ≤ w.heap.size) (hv : ∀ k, v.ownBlock = some k → B ≤ k) : Below B w w' :=
  (Below.refl _ _).grown h.1 hB hv
def AppEnd (base : Nat) (xs : List Int) (m : Int) (v : Value) (w : World) (e : Ending) (w' : World) : Prop :=
  ∃ A c, e = .returned (.slice A (xs ++ codeN m).length c) ∧ w'.ownsRow base 5 1 (.slice A (xs ++ codeN m).length c) (xs ++ codeN m).length ((xs ++ codeN m).map (Value.int .u8)) ∧ Moved w w' v (.slice A (xs ++ codeN m).length c)
set_option maxRecDepth 100000 in
set_option maxHeartbeats 400000 in
theorem tapp_any (base : Nat) (A : Option Addr) (c : Nat) (xs : List Int) (m : Int) (w : World) (hown : w.ownsRow base 5 1 (.slice A xs.length c) xs.length (xs.map (Value.int .u8))) (hbase : base ≤ w.heap.size)
    (hm : -9223372036854775808 ≤ m ∧ m ≤ 9223372036854775807) (hx : xs.length ≤ 70368744177664) :
    Calls Try.prog 39 #[.slice A xs.length c, .int .i64 m] w (AppEnd base xs m (.slice A xs.length c) w) := by
  obtain ⟨i0, hi, hz0, hz1, hz2⟩ := info_parts infoB
  have hz := zig_pow hm
  have hlen := codeN_len m
  have HO := hide hown
  have HC := hide (show codeN m = [] ++ codeF 9 (zig m) from rfl)
  have hzu : zig m = m * 2 ∨ m < 0 := by unfold zig; split <;> omega
  have hzb := zig_bd hm
  clear hown
  generalize hU : zig m = U at *
  rcases (show m < 0 ∨ 0 ≤ m by omega) with hneg | hneg
  all_goals
    try (have hxor := zig_xor m hm.1 hneg; rw [hU] at hxor)
    have HU := hide hU
    clear hU
    go_enter Try.func39, Try.ntmps39
    go_wp2
    go_loopw [0, 5] (fun v x wr => ∃ (pre : List Int) (f : Nat) (u : Int) (A1 : Option Addr) (c1 : Nat), codeN m = pre ++ codeF f u ∧ 0 ≤ u ∧ u ≤ 18446744073709551615 ∧ u < 128 ^ (f + 1) ∧ x = .int .u64 u ∧ v = .slice A1 (xs ++ pre).length c1 ∧ wr.ownsRow base 5 1 (.slice A1 (xs ++ pre).length c1) (xs ++ pre).length ((xs ++ pre).map (Value.int .u8)) ∧ Moved w wr (.slice A xs.length c) (.slice A1 (xs ++ pre).length c1)) (fun _ x _ => (intOf x).toNat)
    case atStart => exact ⟨[], 9, U, A, c, by rw [HC.out], hzb.1, hzb.2, hz.2.1, by first | rfl | (congr 1; omega), by simp, by simpa using HO.out, by simpa using Moved.refl w _⟩
    case round =>
      obtain ⟨pre, f, u, A1, c1, hcode, hu0, hu1, hup, rfl, rfl, hown, hmv⟩ := hrel
      have hpl : pre.length ≤ 10 := by have := congrArg List.length hcode; rw [List.length_append] at this; omega
      have hor := or128e u
      have HCO := hide hcode
      have HOW := hide hown
      have HMV := hide hmv
      have hsz := hmv.1.size
      have hxl : (xs ++ pre).length = xs.length + pre.length := List.length_append
      clear hcode hown hmv
      generalize hL : (xs ++ pre).length = L at *
      have HL := hide hL
      have hLb : L ≤ 70368744177664 + 10 := by omega
      have HXL := hide hxl
      clear hxl
      clear hL
      try clear hxor
      by_cases h128 : 128 ≤ u
      · obtain ⟨g, rfl, hup2⟩ := code_pow hup h128
        have hcs := code_step (g := g) h128
        have HCS := hide hcs
        clear hcs hup
        go_wp2_with (at_builtin; refine wpList_append_sl _ rfl (.tmp 15) (.tmp 19) 22 rfl base 5 i0 (.int .u8 0) 1 Try.underlying22 hi hz0 hz1 hz2 rfl (.slice A1 L c1) L ((xs ++ pre).map (Value.int .u8)) rfl (HOW.out.alloc _) (wr.heap.size + 1) (some ⟨wr.heap.size, 0, none⟩) 1 1 [.int .u8 (u % 128 + 128)] rfl (Sl.one _ _ _) (by intro y hy; simp at hy; subst hy; rfl) (by simp only [maxLen]; omega) (by omega) (by simp; omega) ?_; intro v1 w1 hown1 hg1 hat1)
        obtain ⟨A2, c2, hv, _, _⟩ := own_slice hown1
        subst hv
        have hl2 : (xs ++ (pre ++ [u % 128 + 128])).length = L + 1 := by have := HXL.out; simp; omega
        have hown2 : w1.ownsRow base 5 1 (.slice A2 (xs ++ (pre ++ [u % 128 + 128])).length c2) (xs ++ (pre ++ [u % 128 + 128])).length ((xs ++ (pre ++ [u % 128 + 128])).map (Value.int .u8)) := by
          rw [hl2]; simpa using hown1
        have hmv2 : Moved w w1 (.slice A xs.length c) (.slice A2 (xs ++ (pre ++ [u % 128 + 128])).length c2) := by
          rw [hl2]; exact HMV.out.trans (Moved.step hg1 hat1)
        clear hor
        go_roundw
        case rel => exact ⟨pre ++ [u % 128 + 128], g, u / 128, A2, c2, by rw [HCO.out, HCS.out]; simp, by omega, by omega, hup2, rfl, by rw [hl2], hown2, hmv2⟩
        case measure => simp [intOf]; omega
      · have hcl := code_last (f := f) (u := u) (by omega)
        have HCL := hide (show codeN m = pre ++ [u] by rw [HCO.out, hcl])
        clear hcl hup hor
        go_wp2_with (at_builtin; refine wpList_append_sl _ rfl (.tmp 23) (.tmp 26) 22 rfl base 5 i0 (.int .u8 0) 1 Try.underlying22 hi hz0 hz1 hz2 rfl (.slice A1 L c1) L ((xs ++ pre).map (Value.int .u8)) rfl (HOW.out.alloc _) (wr.heap.size + 1) (some ⟨wr.heap.size, 0, none⟩) 1 1 [.int .u8 u] rfl (Sl.one _ _ _) (by intro y hy; simp at hy; subst hy; rfl) (by simp only [maxLen]; omega) (by omega) (by simp; omega) ?_; intro v1 w1 hown1 hg1 hat1)
        obtain ⟨A2, c2, hv, _, _⟩ := own_slice hown1
        subst hv
        have hl2 : (xs ++ codeN m).length = L + 1 := by have := HXL.out; rw [HCL.out]; simp; omega
        go_ret
        refine ⟨A2, c2, by rw [hl2]; rfl, ?_, ?_⟩
        · rw [hl2, HCL.out]; simpa using hown1
        · rw [hl2]; exact HMV.out.trans (Moved.step hg1 hat1)
end Go.Proofs.Ytlcgpldngooekaa
