/- The contracts of the readers of lists of numbers. -/
import Derived.Test.YtlcgpldngooekaaNW
namespace Go.Proofs.Ytlcgpldngooekaa
open Go.RowKit
set_option linter.unusedVariables false
set_option maxRecDepth 100000 in
theorem nums_any (A : Option Addr) (n c : Nat) (l : List Int) (w : World) (h : Sl w w.heap.size A n (l.map (Value.int .u8))) (hby : Bytes l) (hn : n ≤ 1000000000) :
    Calls Try.prog 22 #[.slice A n c] w (NumsEnd l w) := by
  obtain ⟨i0, hi0, hz0, hz1, hz2⟩ := info_parts infoN
  have hl := h.len
  have H := hide h
  have HY := hide hby
  clear h hby
  go_enter Try.func22, Try.ntmps22
  go_wp2
  go_loopw [4, 5] (fun v i wr => ∃ (k f : Nat) (A1 : Option Addr) (c1 : Nat) (xs : List Int), k ≤ n ∧ xs.length ≤ k ∧ n - k ≤ f ∧ numsF l.length l 0 = (numsF f l k).map (xs ++ ·) ∧ i = .int .i64 k ∧ v = .slice A1 xs.length c1 ∧ wr.ownsRow w.heap.size 2 1 (.slice A1 xs.length c1) xs.length (xs.map (Value.int .i64)) ∧ Below w.heap.size w wr) (fun _ i _ => n - (intOf i).toNat)
  case atStart => exact ⟨0, n, none, 0, [], Nat.zero_le _, Nat.le_refl _, by omega, by rw [hl]; simp, rfl, rfl, ownNil _ _ _, Below.refl _ _⟩
  case round =>
    obtain ⟨k, f, A1, c1, xs, hk, hxk, hf, hrel, rfl, rfl, hown, hb⟩ := hrel
    have HO := hide hown
    have HB := hide hb
    have HR := hide hrel
    clear hown hb hrel
    by_cases hlt : k < n
    · have c38 := tread_any A n c w.heap.size (k : Int) l wr (H.out.below HB.out) HY.out (by omega)
      unfold ReadEnd at c38
      rcases readV_only (a := (k : Int)) HY.out with hv | ⟨k', m, x, hke, hv, hm1, hm2, _, hx1, hx2⟩
      · rw [hv] at c38
        have HN := hide (show numsF l.length l 0 = none by rw [HR.out, numsF_bad (by omega) (by rw [hv])]; rfl)
        have C38 := hide c38
        clear c38 hv
        go_wp2_with (fail)
        refine C38.out.mono ?_
        rintro e w2 ⟨rfl, rfl⟩
        go_wp2
        go_ret2
        exact nums_none HN.out HB.out
      · obtain rfl : k = k' := by omega
        rw [hv] at c38
        obtain ⟨g, rfl⟩ : ∃ g, f = g + 1 := ⟨f - 1, by omega⟩
        have HN := hide (show numsF l.length l 0 = (numsF g l ((k + m : Nat) : Int)).map ((xs ++ [x]) ++ ·) by rw [HR.out, numsF_step (by omega) hv, map_some_pre]; rfl)
        have C38 := hide c38
        clear c38 hv
        generalize hP : xs.length = p at *
        have HP := hide hP
        clear hP
        go_wp2_with (fail)
        refine C38.out.mono ?_
        rintro e w2 ⟨rfl, rfl⟩
        go_wp2_with (at_builtin; refine wpList_append_sl _ rfl (.tmp 22) (.tmp 24) 33 rfl w.heap.size 2 i0 (.int .i64 0) 8 Try.underlying33 hi0 hz0 hz1 hz2 rfl (.slice A1 p c1) p (xs.map (Value.int .i64)) rfl (HO.out.alloc _) (wr.heap.size + 1) (some ⟨wr.heap.size, 0, none⟩) 1 1 [.int .i64 x] rfl (Sl.one _ _ _) (by intro y hy; simp at hy; subst hy; rfl) (by simp only [maxLen]; omega) (by omega) (by have := HB.out.size; simp; omega) ?_; intro v1 w1 hown1 hg1 hat1)
        obtain ⟨A2, c2, hv2, _, _⟩ := own_slice hown1
        subst hv2
        have hb1 : Below w.heap.size w w1 := (HB.out.alloc HB.out.size _).grown hg1 (by have := HB.out.size; simp; omega) (fun k hk => (HO.out.lt k hk).1)
        have hl2 : (xs ++ [x]).length = p + 1 := by simp [HP.out]
        have hown2 : w1.ownsRow w.heap.size 2 1 (.slice A2 (xs ++ [x]).length c2) (xs ++ [x]).length ((xs ++ [x]).map (Value.int .i64)) := by
          rw [hl2]; simpa using hown1
        have HO2 := hide hown2
        have HB2 := hide hb1
        have HL2 := hide hl2
        clear hown1 hown2 hg1 hat1 hb1 hl2
        go_roundw
        case rel => exact ⟨k + m, g, A2, c2, xs ++ [x], by omega, by have := HL2.out; omega, by omega, HN.out, by go_num, by rw [HL2.out], HO2.out, HB2.out⟩
        case measure => simp [intOf]; omega
    · have HN := hide (show numsF l.length l 0 = some xs by rw [HR.out, numsF_end (by omega)]; simp)
      have hsl := Sl.of_own HO.out
      have HS := hide hsl
      clear hsl
      go_wp2
      go_ret2
      exact nums_some HN.out HS.out (by omega) HB.out
set_option maxRecDepth 100000 in
theorem rnums_any (A : Option Addr) (n c : Nat) (l : List Int) (w : World) (h : Sl w w.heap.size A n (l.map (Value.int .u8))) (hby : Bytes l) (hn : n ≤ 1000000000) :
    Calls Try.prog 23 #[.slice A n c] w (NumsEnd l w) := by
  obtain ⟨i0, hi0, hz0, hz1, hz2⟩ := info_parts infoN
  have hl := h.len
  have H := hide h
  have HY := hide hby
  clear h hby
  go_enter Try.func23, Try.ntmps23
  go_wp2
  go_loopw [4, 5] (fun v i wr => ∃ (k f : Nat) (A1 : Option Addr) (c1 : Nat) (xs : List Int), k ≤ n ∧ xs.length ≤ k ∧ n - k ≤ f ∧ numsF l.length l 0 = (numsF f l k).map (xs ++ ·) ∧ i = .int .i64 k ∧ v = .slice A1 xs.length c1 ∧ wr.ownsRow w.heap.size 2 1 (.slice A1 xs.length c1) xs.length (xs.map (Value.int .i64)) ∧ Below w.heap.size w wr) (fun _ i _ => n - (intOf i).toNat)
  case atStart => exact ⟨0, n, some ⟨w.heap.size, 0, none⟩, 0, [], Nat.zero_le _, Nat.le_refl _, by omega, by rw [hl]; simp, rfl, rfl, ownEmpty _ _, (Below.refl _ _).alloc (Nat.le_refl _) _⟩
  case round =>
    obtain ⟨k, f, A1, c1, xs, hk, hxk, hf, hrel, rfl, rfl, hown, hb⟩ := hrel
    have HO := hide hown
    have HB := hide hb
    have HR := hide hrel
    clear hown hb hrel
    by_cases hlt : k < n
    · have c38 := rread_any A n c w.heap.size (k : Int) l wr (H.out.below HB.out) HY.out (by omega)
      unfold ReadEnd at c38
      rcases readV_only (a := (k : Int)) HY.out with hv | ⟨k', m, x, hke, hv, hm1, hm2, _, hx1, hx2⟩
      · rw [hv] at c38
        have HN := hide (show numsF l.length l 0 = none by rw [HR.out, numsF_bad (by omega) (by rw [hv])]; rfl)
        have C38 := hide c38
        clear c38 hv
        go_wp2_with (fail)
        refine C38.out.mono ?_
        rintro e w2 ⟨rfl, rfl⟩
        go_wp2
        go_ret2
        exact nums_none HN.out HB.out
      · obtain rfl : k = k' := by omega
        rw [hv] at c38
        obtain ⟨g, rfl⟩ : ∃ g, f = g + 1 := ⟨f - 1, by omega⟩
        have HN := hide (show numsF l.length l 0 = (numsF g l ((k + m : Nat) : Int)).map ((xs ++ [x]) ++ ·) by rw [HR.out, numsF_step (by omega) hv, map_some_pre]; rfl)
        have C38 := hide c38
        clear c38 hv
        generalize hP : xs.length = p at *
        have HP := hide hP
        clear hP
        go_wp2_with (fail)
        refine C38.out.mono ?_
        rintro e w2 ⟨rfl, rfl⟩
        go_wp2_with (at_builtin; refine wpList_append_sl _ rfl (.tmp 23) (.tmp 25) 33 rfl w.heap.size 2 i0 (.int .i64 0) 8 Try.underlying33 hi0 hz0 hz1 hz2 rfl (.slice A1 p c1) p (xs.map (Value.int .i64)) rfl (HO.out.alloc _) (wr.heap.size + 1) (some ⟨wr.heap.size, 0, none⟩) 1 1 [.int .i64 x] rfl (Sl.one _ _ _) (by intro y hy; simp at hy; subst hy; rfl) (by simp only [maxLen]; omega) (by omega) (by have := HB.out.size; simp; omega) ?_; intro v1 w1 hown1 hg1 hat1)
        obtain ⟨A2, c2, hv2, _, _⟩ := own_slice hown1
        subst hv2
        have hb1 : Below w.heap.size w w1 := (HB.out.alloc HB.out.size _).grown hg1 (by have := HB.out.size; simp; omega) (fun k hk => (HO.out.lt k hk).1)
        have hl2 : (xs ++ [x]).length = p + 1 := by simp [HP.out]
        have hown2 : w1.ownsRow w.heap.size 2 1 (.slice A2 (xs ++ [x]).length c2) (xs ++ [x]).length ((xs ++ [x]).map (Value.int .i64)) := by
          rw [hl2]; simpa using hown1
        have HO2 := hide hown2
        have HB2 := hide hb1
        have HL2 := hide hl2
        clear hown1 hown2 hg1 hat1 hb1 hl2
        go_roundw
        case rel => exact ⟨k + m, g, A2, c2, xs ++ [x], by omega, by have := HL2.out; omega, by omega, HN.out, by go_num, by rw [HL2.out], HO2.out, HB2.out⟩
        case measure => simp [intOf]; omega
    · have HN := hide (show numsF l.length l 0 = some xs by rw [HR.out, numsF_end (by omega)]; simp)
      have hsl := Sl.of_own HO.out
      have HS := hide hsl
      clear hsl
      go_wp2
      go_ret2
      exact nums_some HN.out HS.out (by omega) HB.out
end Go.Proofs.Ytlcgpldngooekaa
