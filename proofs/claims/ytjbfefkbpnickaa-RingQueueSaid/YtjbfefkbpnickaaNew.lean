/- New buffers, copies, comparison of buffers: the contracts. -/
import Derived.Test.YtjbfefkbpnickaaOwn
import Derived.Test.YtjbfefkbpnickaaRValid
import Derived.Test.YtjbfefkbpnickaaCells
import Derived.Handy
namespace Go.Proofs.Ytjbfefkbpnickaa
open Go.RowKit
set_option linter.unusedVariables false
set_option maxRecDepth 100000 in
theorem new_bad (cap : Int) (w : World) (h : cap < 1 ∨ 65536 < cap) : Calls Try.prog 10 #[.int .i64 cap] w (fun e w' => e = .returned (.tuple #[(ringV 0 0 0 none 0 0), .int .i64 1]) ∧ Below w.heap.size w w') := by
  unfold ringV
  by_cases h1 : cap < 1
  · go_enter Try.func10, Try.ntmps10
    go_wp2
    go_returns
    exact ⟨rfl, (Below.refl _ _).alloc (Nat.le_refl _) _⟩
  · have h2 : 65536 < cap := by omega
    clear h
    go_enter Try.func10, Try.ntmps10
    go_wp2
    go_returns
    exact ⟨rfl, (Below.refl _ _).alloc (Nat.le_refl _) _⟩
set_option maxRecDepth 100000 in
theorem new_ok (n : Nat) (w : World) (h : 1 ≤ n ∧ n ≤ 65536) : Calls Try.prog 10 #[.int .i64 n] w (fun e w' => ∃ A c, e = .returned (.tuple #[ringV n 0 0 A n c, .int .i64 0]) ∧ w'.ownsRow w.heap.size 33 2 (.slice A n c) n (flat (cellsL n 0 [])) ∧ Below w.heap.size w w') := by
  obtain ⟨i0, hi, hz0, hz1, hz2⟩ := info_parts info33
  rw [cellsL_nil]
  unfold ringV
  go_enter Try.func10, Try.ntmps10
  go_wp2_with (at_make; refine wpList_make_full _ rfl (.tmp 12) (.tmp 12) 22 rfl w.heap.size 33 i0 (.agg #[.int .i64 0, .int .i64 0]) 2 Try.underlying22 hi hz0 hz1 .i64 .i64 n n n rfl rfl rfl rfl (by rw [hz2]; omega) (by simp only [maxLen]; omega) (by simp) ?_; intro w1 hown1 hg1; have hk := (Blk.new w 24 #[.int .i64 0, .int .i64 0, .int .i64 0, .slice none 0 0]).grown hg1 (by simp); have HK := hide hk; obtain ⟨g0, g1, g2, g3, f0, f1, f2, f3⟩ := hk.four)
  refine bodyPost_ret (res2 rfl _ rfl (HK.out.store4 _ _ _ _)) rfl ?_
  have hne : ∀ g, (Value.slice (some ⟨w.heap.size + 1, 0, none⟩) n n).ownBlock = some g → g ≠ w.heap.size := by intro g hg; simp [Value.ownBlock] at hg; omega
  have hb1 : Below w.heap.size w w1 := ((Below.refl _ _).alloc (Nat.le_refl _) _).grown hg1 (by simp) (by intro q hq; cases hq)
  refine ⟨_, _, rfl, ?_, ?_⟩
  · rw [made2] at hown1
    refine own_far (own_far (own_far (own_far (own_more ?_ (Nat.le_refl _)) hne _) hne _) hne _) hne _
    simpa using hown1
  · exact (((hb1.setCell (Nat.le_refl _) _).setCell (Nat.le_refl _) _).setCell (Nat.le_refl _) _).setCell (Nat.le_refl _) _
set_option maxRecDepth 100000 in
theorem copied_any (cap head len : Int) (A : Option Addr) (n c B : Nat) (l : List (Int × Int)) (w : World) (h : Sl2 w B A n l) (hB : B ≤ w.heap.size) (hn : n ≤ 65536) :
    Calls Try.prog 30 #[ringV cap head len A n c] w (fun e w' => ∃ A' c', e = .returned (ringV cap head len A' n c') ∧ w'.ownsRow w.heap.size 33 2 (.slice A' n c') n (flat l) ∧ Below w.heap.size w w') := by
  obtain ⟨i0, hi, hz0, hz1, hz2⟩ := info_parts info33
  have H := hide (h.more hB)
  clear h
  unfold ringV
  go_enter Try.func30, Try.ntmps30
  go_wp2_with (at_builtin; refine wpList_append_sl2 _ rfl (.tmp 3) (.tmp 5) 22 rfl (w.heap.size + 1 + 1) 33 i0 (.agg #[.int .i64 0, .int .i64 0]) 16 Try.underlying22 hi hz0 hz1 hz2 rfl (.slice (some ⟨w.heap.size + 1 + 1, 0, none⟩) 0 0) 0 [] rfl (own_empty_at (by simp) 33) w.heap.size A n c l rfl (H.out.below ((((Below.refl _ _).alloc (Nat.le_refl _) _).alloc (by simp) _).alloc (by simp; omega) _)) (by simp only [maxLen]; omega) (by omega) (by simp) ?_; intro v1 w1 hown1 hg1 hat1; obtain ⟨A2, c2, hv2, _, _⟩ := own_slice2 hown1; subst hv2; have hk1 := (((Blk.new w 24 #[.int .i64 cap, .int .i64 head, .int .i64 len, .slice A n c]).alloc (.cells #[.int .i64 0, .int .i64 0, .int .i64 0, .slice none 0 0] 24)).alloc (.cells #[] 33)).grown hg1 (by simp [Value.ownBlock]; omega); have hk2 := ((Blk.new_at (w := w.alloc (.cells #[.int .i64 cap, .int .i64 head, .int .i64 len, .slice A n c] 24)) (g := w.heap.size + 1) (by simp) 24 #[.int .i64 0, .int .i64 0, .int .i64 0, .slice none 0 0]).alloc (.cells #[] 33)).grown hg1 (by simp [Value.ownBlock]); have HK1 := hide hk1; have HK2 := hide hk2; obtain ⟨g0, g1, g2, g3, f0, f1, f2, f3⟩ := hk1.four; obtain ⟨e0, e1, e2, e3, d0, d1, d2, d3⟩ := hk2.four; clear hk1 hk2)
  refine bodyPost_ret (res1 rfl _ rfl ((HK2.out.far (by simp) _).store4 _ _ _ _)) rfl ?_
  have hb1 : Below w.heap.size w w1 := ((((Below.refl _ _).alloc (Nat.le_refl _) _).alloc (by simp) _).alloc (by simp; omega) _).grown hg1 (by simp; omega) (by intro q hq; simp [Value.ownBlock] at hq; omega)
  have hne : ∀ g, (Value.slice A2 (0 + n) c2).ownBlock = some g → w.heap.size + 1 + 1 ≤ g := fun g hg => (hown1.lt g hg).1
  simp only [Nat.zero_add, List.nil_append] at hown1 hne ⊢
  refine ⟨_, _, rfl, ?_, ?_⟩
  · refine own_far (own_far (own_far (own_far (own_far (own_more hown1 (by omega)) ?_ _) ?_ _) ?_ _) ?_ _) ?_ _ <;> (intro g hg; have := hne g hg; simp; omega)
  · exact ((((hb1.setCell (Nat.le_refl _) _).setCell (by simp) _).setCell (by simp) _).setCell (by simp) _).setCell (by simp) _
set_option maxRecDepth 100000 in
theorem same_ring (cap head len : Int) (A : Option Addr) (n c B : Nat) (l : List (Int × Int)) (cap2 head2 len2 : Int) (A2 : Option Addr) (n2 c2 B2 : Nat) (l2 : List (Int × Int)) (w : World) (h : Sl2 w B A n l) (hB : B ≤ w.heap.size) (k : Sl2 w B2 A2 n2 l2) (kB : B2 ≤ w.heap.size)
    (hn : n ≤ 65536) (hn2 : n2 ≤ 65536) (e1 : cap = cap2) (e2 : head = head2) (e3 : len = len2) (e4 : l = l2) :
    Calls Try.prog 11 #[ringV cap head len A n c, ringV cap2 head2 len2 A2 n2 c2] w (fun e w' => e = .returned (.bool true) ∧ Below w.heap.size w w') := by
  subst e1 e2 e3 e4
  have C1 := hide (fun w1 (hb : Below w.heap.size w w1) => same_any A A2 n c w.heap.size n2 c2 w.heap.size l l w1 ((h.more hB).below hb) (by omega) ((k.more kB).below hb) (by omega))
  unfold SameEnd at C1
  rw [decide_eq_true rfl] at C1
  clear h k
  unfold ringV
  go_enter Try.func11, Try.ntmps11
  go_wp2_with (go_at_call 23; refine (C1.out _ (((Below.refl _ _).alloc (Nat.le_refl _) _).alloc (by simp) _)).mono ?_; rintro e w1 ⟨rfl, q, rfl⟩)
  go_returns
  exact ⟨rfl, below_drewN (((Below.refl _ _).alloc (Nat.le_refl _) _).alloc (by simp) _) _⟩
end Go.Proofs.Ytjbfefkbpnickaa
