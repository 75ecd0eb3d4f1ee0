/- The reference's numbers of a configuration, a list, a text: the contracts. -/
import Derived.Test.YtlcgpldngooekaaCX
namespace Go.Proofs.Ytlcgpldngooekaa
open Go.RowKit
set_option linter.unusedVariables false
/-- a list of numbers of the call's own was made -/
def NumsR (xs : List Int) (w : World) (e : Ending) (w' : World) : Prop :=
  ∃ (A : Option Addr) (c : Nat), e = .returned (.slice A xs.length c) ∧ w'.ownsRow w.heap.size 2 1 (.slice A xs.length c) xs.length (xs.map (Value.int .i64)) ∧ Below w.heap.size w w'
theorem own_row_h {w : World} {g base n : Nat} {t : TypeId} {l : List Value} (hg : w.heap.size = g) (hb : base ≤ g) (hn : l.length = n) (hm : n ≤ maxLen) : (w.alloc (.cells l.toArray t)).ownsRow base t 1 (.slice (some ⟨g, 0, none⟩) n n) n l := by
  subst hg hn
  exact ⟨by simp, .inr ⟨w.heap.size, l.length, l.toArray, rfl, hb, heap_alloc_new w _, Nat.le_refl _, hm, by simp, by simp⟩⟩
set_option maxRecDepth 100000 in
theorem rconf_any (x0 x1 x2 x3 x4 x5 x6 x7 : Int) (w : World) : Calls Try.prog 53 #[.agg #[.int .i64 x0, .int .i64 x1, .int .i64 x2, .int .i64 x3, .int .i64 x4, .int .i64 x5, .int .i64 x6, .int .i64 x7]] w (NumsR [x0, x1, x2, x3, x4, x5, x6, x7] w) := by
  go_enter Try.func53, Try.ntmps53
  go_wp2
  go_ret
  exact ⟨_, _, rfl, own_mono (own_row_h (base := w.heap.size + 1) (l := [.int .i64 x0, .int .i64 x1, .int .i64 x2, .int .i64 x3, .int .i64 x4, .int .i64 x5, .int .i64 x6, .int .i64 x7]) (by simp) (Nat.le_refl _) rfl (by simp [maxLen])) (by omega), ((Below.refl _ w).alloc (Nat.le_refl _) _).alloc (by simp) _⟩
set_option maxRecDepth 100000 in
theorem rlist_any (A : Option Addr) (n c B : Nat) (xs : List Int) (w : World) (hS : Sl w B A n (xs.map (Value.int .i64))) (hB : B ≤ w.heap.size) (hn : n ≤ 1000000000) : Calls Try.prog 54 #[.slice A n c] w (NumsR ((xs.length : Int) :: xs) w) := by
  obtain ⟨i0, hi0, hz0, hz1, hz2⟩ := info_parts infoListI
  have hl := hS.len
  have HS := hide hS
  have HL := hide hl
  clear hS hl
  go_enter Try.func54, Try.ntmps54
  go_wp2_with (at_builtin; refine wpList_append_sl _ rfl (.tmp 5) (.tmp 6) 33 rfl w.heap.size 2 i0 (.int .i64 0) 8 Try.underlying33 hi0 hz0 hz1 hz2 rfl (.slice (some ⟨w.heap.size, 0, none⟩) 1 1) 1 [.int .i64 n] rfl (own_row_h rfl (Nat.le_refl _) rfl (by simp [maxLen])) B A n c (xs.map (Value.int .i64)) rfl (HS.out.alloc hB _) (by intro u hu; obtain ⟨q, _, rfl⟩ := List.mem_map.1 hu; rfl) (by simp only [maxLen]; omega) (by omega) (by simp) ?_; intro v6 w6 hown6 hg6 hat6; obtain ⟨A2, c2, hv6, _, _⟩ := own_slice hown6; subst hv6)
  go_ret
  have hle : ((xs.length : Int) :: xs).length = 1 + n := by have := HL.out; simp; omega
  refine ⟨A2, c2, by rw [hle]; rfl, ?_, ?_⟩
  · rw [hle]; have hx : ((xs.length : Int) :: xs).map (Value.int .i64) = [.int .i64 n] ++ xs.map (Value.int .i64) := by simp [HL.out]
    rw [hx]; exact hown6
  · exact ((Below.refl _ w).alloc (Nat.le_refl _) _).grown hg6 (by simp) (fun q hq => by simp [Value.ownBlock] at hq; omega)
end Go.Proofs.Ytlcgpldngooekaa
