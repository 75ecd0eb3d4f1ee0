/- The contracts of the writers and readers of lists of numbers. | The contracts of the readers of lists of numbers. -/
import Derived.Test.YtlcgpldngooekaaApp2
import Derived.Test.YtlcgpldngooekaaRead
import Derived.Test.YtlcgpldngooekaaNums
namespace Go.Proofs.Ytlcgpldngooekaa
open Go.RowKit
set_option linter.unusedVariables false
theorem infoN : (Try.prog.info? 2).map (fun i => (i.zero, i.size, i.bytes)) = some (some (.int .i64 0), 1, 8) := by kernel_rfl
theorem ownNil (w : World) (base : Nat) (e : TypeId) : w.ownsRow base e 1 (.slice none 0 0) 0 [] := ⟨rfl, .inl ⟨rfl, rfl⟩⟩
set_option maxRecDepth 100000 in
theorem write_any (A : Option Addr) (n c : Nat) (l : List Int) (w : World) (h : Sl w w.heap.size A n (l.map (Value.int .i64))) (hi : Ints l) (hn : n ≤ 1000000000) :
    Calls Try.prog 21 #[.slice A n c] w (fun e w' => ∃ A' c', e = .returned (.slice A' (writeL l).length c') ∧ w'.ownsRow w.heap.size 5 1 (.slice A' (writeL l).length c') (writeL l).length ((writeL l).map (Value.int .u8)) ∧ Below w.heap.size w w') := by
  have hl := h.len
  have H := hide h
  have HI := hide hi
  clear h hi
  go_enter Try.func21, Try.ntmps21
  go_wp2
  go_loopw [3, 8] (fun v i wr => ∃ (j : Nat) (A1 : Option Addr) (c1 : Nat), j ≤ n ∧ i = .int .i64 j ∧ v = .slice A1 (writeL (l.take j)).length c1 ∧ wr.ownsRow w.heap.size 5 1 (.slice A1 (writeL (l.take j)).length c1) (writeL (l.take j)).length ((writeL (l.take j)).map (Value.int .u8)) ∧ Below w.heap.size w wr) (fun _ i _ => n - (intOf i).toNat)
  case atStart => exact ⟨0, none, 0, Nat.zero_le _, rfl, rfl, ownNil _ _ _, Below.refl _ _⟩
  case round =>
    obtain ⟨j, A1, c1, hj, rfl, rfl, hown, hb⟩ := hrel
    have HO := hide hown
    have HB := hide hb
    clear hown hb
    by_cases hlt : j < n
    · obtain ⟨b1, o1, x, rfl, hb1, hx, hc1⟩ := (H.out.below HB.out).int hlt
      have HX := hide hx
      have hle : (writeL (l.take j)).length ≤ 70368744177664 := by have := (writeL_len (l.take j)).1; rw [List.length_take] at this; omega
      have c39 := tapp_any w.heap.size A1 c1 (writeL (l.take j)) x wr HO.out HB.out.size (HI.out x (mem_of_at hx)) hle
      have C39 := hide c39
      clear hx c39 hle
      generalize hL : writeL (l.take j) = pre at *
      have HL := hide hL
      clear hL
      generalize hP : pre.length = p at *
      have HP := hide hP
      clear hP
      go_wp2_with (fail)
      refine C39.out.mono ?_
      rintro e w2 ⟨A3, c3, rfl, hown3, hmv⟩
      have hb2 := hmv.below HB.out.size (fun k hk => (HO.out.lt k hk).1)
      have hpre : pre ++ codeN x = writeL (l.take (j + 1)) := by rw [take_snoc HX.out, writeL_snoc, HL.out]
      rw [hpre] at hown3 ⊢
      have HO3 := hide hown3
      have HB2 := hide hb2
      clear hown3 hb2 hmv hpre
      go_wp2
      go_roundw
      case rel => exact ⟨j + 1, A3, c3, by omega, by go_num, rfl, HO3.out, HB.out.trans HB2.out⟩
      case measure => simp [intOf]; omega
    · have HT := hide (show l.take j = l from List.take_of_length_le (by omega))
      rw [HT.out] at HO ⊢
      go_wp2
      go_ret
      exact ⟨A1, c1, rfl, HO.out, HB.out⟩
theorem own_below {base : Nat} {e : TypeId} {k : Nat} {v : Value} {n : Nat} {xs : List Value} {w w' : World} (h : w.ownsRow base e k v n xs) (hb : Below w.heap.size w w') : w'.ownsRow base e k v n xs := by
  refine ⟨h.1, ?_⟩
  rcases h.2 with hn | ⟨g, cap, cur, hv, hbg, hgg, rest⟩
  · exact .inl hn
  · exact .inr ⟨g, cap, cur, hv, hbg, (hb.block g (Array.getElem?_eq_some_iff.1 hgg).1).trans hgg, rest⟩
theorem infoB2 : (Try.prog.info? 5).map (fun i => (i.zero, i.size, i.bytes)) = some (some (.int .u8 0), 1, 1) := by kernel_rfl
set_option maxRecDepth 100000 in
theorem rwrite_any (A : Option Addr) (n c : Nat) (l : List Int) (w : World) (h : Sl w w.heap.size A n (l.map (Value.int .i64))) (hi : Ints l) (hn : n ≤ 1000000000) :
    Calls Try.prog 24 #[.slice A n c] w (fun e w' => ∃ A' c', e = .returned (.slice A' (writeL l).length c') ∧ w'.ownsRow w.heap.size 5 1 (.slice A' (writeL l).length c') (writeL l).length ((writeL l).map (Value.int .u8)) ∧ Below w.heap.size w w') := by
  obtain ⟨i0, hi0, hz0, hz1, hz2⟩ := info_parts infoB
  have hl := h.len
  have H := hide h
  have HI := hide hi
  clear h hi
  go_enter Try.func24, Try.ntmps24
  go_wp2
  go_loopw [3, 8] (fun v i wr => ∃ (j : Nat) (A1 : Option Addr) (c1 : Nat), j ≤ n ∧ i = .int .i64 j ∧ v = .slice A1 (writeL (l.take j)).length c1 ∧ wr.ownsRow w.heap.size 5 1 (.slice A1 (writeL (l.take j)).length c1) (writeL (l.take j)).length ((writeL (l.take j)).map (Value.int .u8)) ∧ Below w.heap.size w wr) (fun _ i _ => n - (intOf i).toNat)
  case atStart => exact ⟨0, none, 0, Nat.zero_le _, rfl, rfl, ownNil _ _ _, Below.refl _ _⟩
  case round =>
    obtain ⟨j, A1, c1, hj, rfl, rfl, hown, hb⟩ := hrel
    have HO := hide hown
    have HB := hide hb
    clear hown hb
    by_cases hlt : j < n
    · obtain ⟨b1, o1, x, rfl, hb1, hx, hc1⟩ := (H.out.below HB.out).int hlt
      have HX := hide hx
      have hle : (writeL (l.take j)).length ≤ 70368744177664 := by have := (writeL_len (l.take j)).1; rw [List.length_take] at this; omega
      have c20 := rapp_any none 0 0 [] x wr Sl.none_ (HI.out x (mem_of_at hx)) (by omega)
      have C20 := hide c20
      clear hx c20
      generalize hL : writeL (l.take j) = pre at *
      have HL := hide hL
      clear hL
      generalize hP : pre.length = p at *
      have HP := hide hP
      clear hP
      have hcl := codeN_len x
      go_wp2_with (fail)
      refine C20.out.mono ?_
      rintro e w2 ⟨A3, c3, rfl, hown3, hb3⟩
      simp only [List.nil_append] at hown3 ⊢
      have hsl3 := Sl.of_own hown3
      have hkeep := own_below HO.out hb3
      have hsz := hb3.size
      have hlt3 := fun k hk => (HO.out.lt k hk)
      have HS3 := hide hsl3
      have HK := hide hkeep
      have HB3 := hide hb3
      clear hown3 hb3 hsl3 hkeep
      go_wp2_with (at_builtin; refine wpList_append_sl _ rfl (.tmp 12) (.tmp 14) 22 rfl w.heap.size 5 i0 (.int .u8 0) 1 Try.underlying22 hi0 hz0 hz1 hz2 rfl (.slice A1 p c1) p (pre.map (Value.int .u8)) rfl HK.out w2.heap.size A3 (codeN x).length c3 ((codeN x).map (Value.int .u8)) rfl HS3.out (ints_one _ _) (by simp only [maxLen]; omega) (by omega) (by have := HB.out.size; omega) ?_; intro v1 w3 hown4 hg4 hat4)
      have hb4 : Below w.heap.size w w3 := (HB.out.trans (HB3.out.mono HB.out.size)).grown hg4 (by have := HB.out.size; omega) (fun k hk => (HO.out.lt k hk).1)
      obtain ⟨A4, c4, hv4, _, _⟩ := own_slice hown4
      subst hv4
      have hpre : pre ++ codeN x = writeL (l.take (j + 1)) := by rw [take_snoc HX.out, writeL_snoc, HL.out]
      have hpl : p + (codeN x).length = (writeL (l.take (j + 1))).length := by rw [← hpre, List.length_append, HP.out]
      rw [← List.map_append, hpre, hpl] at hown4
      rw [hpl]
      have HO4 := hide hown4
      have HB4 := hide hb4
      clear hown4 hb4 hg4 hat4 hpre hpl
      go_roundw
      case rel => exact ⟨j + 1, A4, c4, by omega, by go_num, rfl, HO4.out, HB4.out⟩
      case measure => simp [intOf]; omega
    · have HT := hide (show l.take j = l from List.take_of_length_le (by omega))
      rw [HT.out] at HO ⊢
      go_wp2
      go_ret
      exact ⟨A1, c1, rfl, HO.out, HB.out⟩
def NumsEnd (l : List Int) (w : World) (e : Ending) (w' : World) : Prop :=
  ∃ A n c, e = .returned (.tuple #[.slice A n c, .int .i64 (numsV l).2]) ∧ Sl w' w'.heap.size A n ((numsV l).1.map (Value.int .i64)) ∧ n ≤ l.length ∧ Below w.heap.size w w'
theorem nums_none {l : List Int} {w w' : World} (h : numsF l.length l 0 = none) (hb : Below w.heap.size w w') : NumsEnd l w (.returned (.tuple #[.slice none 0 0, .int .i64 13])) w' := by
  unfold NumsEnd; rw [numsV_none h]; exact ⟨none, 0, 0, rfl, Sl.none_, Nat.zero_le _, hb⟩
theorem nums_some {l xs : List Int} {A : Option Addr} {n c : Nat} {w w' : World} (h : numsF l.length l 0 = some xs) (hs : Sl w' w'.heap.size A n (xs.map (Value.int .i64))) (hn : n ≤ l.length) (hb : Below w.heap.size w w') : NumsEnd l w (.returned (.tuple #[.slice A n c, .int .i64 0])) w' := by
  unfold NumsEnd; rw [numsV_some h]; exact ⟨A, n, c, rfl, hs, hn, hb⟩
end Go.Proofs.Ytlcgpldngooekaa
namespace Go.Proofs.Ytlcgpldngooekaa
open Go.RowKit
set_option linter.unusedVariables false
set_option maxRecDepth 100000 in
theorem nums_any (A : Option Addr) (n c : Nat) (l : List Int) (w : World) (h : Sl w w.heap.size A n (l.map (Value.int .u8))) (hby : Bytes l) (hn : n ≤ 1000000000) :
    Calls Try.prog 22 #[.slice A n c] w (NumsEnd l w) := by
  obtain ⟨i0, hi0, hz0, hz1, hz2⟩ := info_parts infoN
  have hl := h.len
  have H := hide h
  have HY := hide hby
  clear h hby
  go_enter Try.func22, Try.ntmps22
  go_wp2
  go_loopw [4, 5] (fun v i wr => ∃ (k f : Nat) (A1 : Option Addr) (c1 : Nat) (xs : List Int), k ≤ n ∧ xs.length ≤ k ∧ n - k ≤ f ∧ numsF l.length l 0 = (numsF f l k).map (xs ++ ·) ∧ i = .int .i64 k ∧ v = .slice A1 xs.length c1 ∧ wr.ownsRow w.heap.size 2 1 (.slice A1 xs.length c1) xs.length (xs.map (Value.int .i64)) ∧ Below w.heap.size w wr) (fun _ i _ => n - (intOf i).toNat)
  case atStart => exact ⟨0, n, none, 0, [], Nat.zero_le _, Nat.le_refl _, by omega, by rw [hl]; simp, rfl, rfl, ownNil _ _ _, Below.refl _ _⟩
  case round =>
    obtain ⟨k, f, A1, c1, xs, hk, hxk, hf, hrel, rfl, rfl, hown, hb⟩ := hrel
    have HO := hide hown
    have HB := hide hb
    have HR := hide hrel
    clear hown hb hrel
    by_cases hlt : k < n
    · have c38 := tread_any A n c w.heap.size (k : Int) l wr (H.out.below HB.out) HY.out (by omega)
      unfold ReadEnd at c38
      rcases readV_only (a := (k : Int)) HY.out with hv | ⟨k', m, x, hke, hv, hm1, hm2, _, hx1, hx2⟩
      · rw [hv] at c38
        have HN := hide (show numsF l.length l 0 = none by rw [HR.out, numsF_bad (by omega) (by rw [hv])]; rfl)
        have C38 := hide c38
        clear c38 hv
        go_wp2_with (fail)
        refine C38.out.mono ?_
        rintro e w2 ⟨rfl, rfl⟩
        go_wp2
        go_ret2
        exact nums_none HN.out HB.out
      · obtain rfl : k = k' := by omega
        rw [hv] at c38
        obtain ⟨g, rfl⟩ : ∃ g, f = g + 1 := ⟨f - 1, by omega⟩
        have HN := hide (show numsF l.length l 0 = (numsF g l ((k + m : Nat) : Int)).map ((xs ++ [x]) ++ ·) by rw [HR.out, numsF_step (by omega) hv, map_some_pre]; rfl)
        have C38 := hide c38
        clear c38 hv
        generalize hP : xs.length = p at *
        have HP := hide hP
        clear hP
        go_wp2_with (fail)
        refine C38.out.mono ?_
        rintro e w2 ⟨rfl, rfl⟩
        go_wp2_with (at_builtin; refine wpList_append_sl _ rfl (.tmp 22) (.tmp 24) 33 rfl w.heap.size 2 i0 (.int .i64 0) 8 Try.underlying33 hi0 hz0 hz1 hz2 rfl (.slice A1 p c1) p (xs.map (Value.int .i64)) rfl (HO.out.alloc _) (wr.heap.size + 1) (some ⟨wr.heap.size, 0, none⟩) 1 1 [.int .i64 x] rfl (Sl.one _ _ _) (by intro y hy; simp at hy; subst hy; rfl) (by simp only [maxLen]; omega) (by omega) (by have := HB.out.size; simp; omega) ?_; intro v1 w1 hown1 hg1 hat1)
        obtain ⟨A2, c2, hv2, _, _⟩ := own_slice hown1
        subst hv2
        have hb1 : Below w.heap.size w w1 := (HB.out.alloc HB.out.size _).grown hg1 (by have := HB.out.size; simp; omega) (fun k hk => (HO.out.lt k hk).1)
        have hl2 : (xs ++ [x]).length = p + 1 := by simp [HP.out]
        have hown2 : w1.ownsRow w.heap.size 2 1 (.slice A2 (xs ++ [x]).length c2) (xs ++ [x]).length ((xs ++ [x]).map (Value.int .i64)) := by
          rw [hl2]; simpa using hown1
        have HO2 := hide hown2
        have HB2 := hide hb1
        have HL2 := hide hl2
        clear hown1 hown2 hg1 hat1 hb1 hl2
        go_roundw
        case rel => exact ⟨k + m, g, A2, c2, xs ++ [x], by omega, by have := HL2.out; omega, by omega, HN.out, by go_num, by rw [HL2.out], HO2.out, HB2.out⟩
        case measure => simp [intOf]; omega
    · have HN := hide (show numsF l.length l 0 = some xs by rw [HR.out, numsF_end (by omega)]; simp)
      have hsl := Sl.of_own HO.out
      have HS := hide hsl
      clear hsl
      go_wp2
      go_ret2
      exact nums_some HN.out HS.out (by omega) HB.out
set_option maxRecDepth 100000 in
theorem rnums_any (A : Option Addr) (n c : Nat) (l : List Int) (w : World) (h : Sl w w.heap.size A n (l.map (Value.int .u8))) (hby : Bytes l) (hn : n ≤ 1000000000) :
    Calls Try.prog 23 #[.slice A n c] w (NumsEnd l w) := by
  obtain ⟨i0, hi0, hz0, hz1, hz2⟩ := info_parts infoN
  have hl := h.len
  have H := hide h
  have HY := hide hby
  clear h hby
  go_enter Try.func23, Try.ntmps23
  go_wp2
  go_loopw [4, 5] (fun v i wr => ∃ (k f : Nat) (A1 : Option Addr) (c1 : Nat) (xs : List Int), k ≤ n ∧ xs.length ≤ k ∧ n - k ≤ f ∧ numsF l.length l 0 = (numsF f l k).map (xs ++ ·) ∧ i = .int .i64 k ∧ v = .slice A1 xs.length c1 ∧ wr.ownsRow w.heap.size 2 1 (.slice A1 xs.length c1) xs.length (xs.map (Value.int .i64)) ∧ Below w.heap.size w wr) (fun _ i _ => n - (intOf i).toNat)
  case atStart => exact ⟨0, n, some ⟨w.heap.size, 0, none⟩, 0, [], Nat.zero_le _, Nat.le_refl _, by omega, by rw [hl]; simp, rfl, rfl, ownEmpty _ _, (Below.refl _ _).alloc (Nat.le_refl _) _⟩
  case round =>
    obtain ⟨k, f, A1, c1, xs, hk, hxk, hf, hrel, rfl, rfl, hown, hb⟩ := hrel
    have HO := hide hown
    have HB := hide hb
    have HR := hide hrel
    clear hown hb hrel
    by_cases hlt : k < n
    · have c38 := rread_any A n c w.heap.size (k : Int) l wr (H.out.below HB.out) HY.out (by omega)
      unfold ReadEnd at c38
      rcases readV_only (a := (k : Int)) HY.out with hv | ⟨k', m, x, hke, hv, hm1, hm2, _, hx1, hx2⟩
      · rw [hv] at c38
        have HN := hide (show numsF l.length l 0 = none by rw [HR.out, numsF_bad (by omega) (by rw [hv])]; rfl)
        have C38 := hide c38
        clear c38 hv
        go_wp2_with (fail)
        refine C38.out.mono ?_
        rintro e w2 ⟨rfl, rfl⟩
        go_wp2
        go_ret2
        exact nums_none HN.out HB.out
      · obtain rfl : k = k' := by omega
        rw [hv] at c38
        obtain ⟨g, rfl⟩ : ∃ g, f = g + 1 := ⟨f - 1, by omega⟩
        have HN := hide (show numsF l.length l 0 = (numsF g l ((k + m : Nat) : Int)).map ((xs ++ [x]) ++ ·) by rw [HR.out, numsF_step (by omega) hv, map_some_pre]; rfl)
        have C38 := hide c38
        clear c38 hv
        generalize hP : xs.length = p at *
        have HP := hide hP
        clear hP
        go_wp2_with (fail)
        refine C38.out.mono ?_
        rintro e w2 ⟨rfl, rfl⟩
        go_wp2_with (at_builtin; refine wpList_append_sl _ rfl (.tmp 23) (.tmp 25) 33 rfl w.heap.size 2 i0 (.int .i64 0) 8 Try.underlying33 hi0 hz0 hz1 hz2 rfl (.slice A1 p c1) p (xs.map (Value.int .i64)) rfl (HO.out.alloc _) (wr.heap.size + 1) (some ⟨wr.heap.size, 0, none⟩) 1 1 [.int .i64 x] rfl (Sl.one _ _ _) (by intro y hy; simp at hy; subst hy; rfl) (by simp only [maxLen]; omega) (by omega) (by have := HB.out.size; simp; omega) ?_; intro v1 w1 hown1 hg1 hat1)
        obtain ⟨A2, c2, hv2, _, _⟩ := own_slice hown1
        subst hv2
        have hb1 : Below w.heap.size w w1 := (HB.out.alloc HB.out.size _).grown hg1 (by have := HB.out.size; simp; omega) (fun k hk => (HO.out.lt k hk).1)
        have hl2 : (xs ++ [x]).length = p + 1 := by simp [HP.out]
        have hown2 : w1.ownsRow w.heap.size 2 1 (.slice A2 (xs ++ [x]).length c2) (xs ++ [x]).length ((xs ++ [x]).map (Value.int .i64)) := by
          rw [hl2]; simpa using hown1
        have HO2 := hide hown2
        have HB2 := hide hb1
        have HL2 := hide hl2
        clear hown1 hown2 hg1 hat1 hb1 hl2
        go_roundw
        case rel => exact ⟨k + m, g, A2, c2, xs ++ [x], by omega, by have := HL2.out; omega, by omega, HN.out, by go_num, by rw [HL2.out], HO2.out, HB2.out⟩
        case measure => simp [intOf]; omega
    · have HN := hide (show numsF l.length l 0 = some xs by rw [HR.out, numsF_end (by omega)]; simp)
      have hsl := Sl.of_own HO.out
      have HS := hide hsl
      clear hsl
      go_wp2
      go_ret2
      exact nums_some HN.out HS.out (by omega) HB.out
end Go.Proofs.Ytlcgpldngooekaa
