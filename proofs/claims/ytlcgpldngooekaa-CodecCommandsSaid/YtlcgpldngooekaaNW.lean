/- The contracts of the writers and readers of lists of numbers. -/
import Derived.Test.YtlcgpldngooekaaApp2
import Derived.Test.YtlcgpldngooekaaRead
import Derived.Test.YtlcgpldngooekaaNums
namespace Go.Proofs.Ytlcgpldngooekaa
open Go.RowKit
set_option linter.unusedVariables false
theorem infoN : (Try.prog.info? 2).map (fun i => (i.zero, i.size, i.bytes)) = some (some (.int .i64 0), 1, 8) := by kernel_rfl
theorem ownNil (w : World) (base : Nat) (e : TypeId) : w.ownsRow base e 1 (.slice none 0 0) 0 [] := ⟨rfl, .inl ⟨rfl, rfl⟩⟩
set_option maxRecDepth 100000 in
theorem write_any (A : Option Addr) (n c : Nat) (l : List Int) (w : World) (h : Sl w w.heap.size A n (l.map (Value.int .i64))) (hi : Ints l) (hn : n ≤ 1000000000) :
    Calls Try.prog 21 #[.slice A n c] w (fun e w' => ∃ A' c', e = .returned (.slice A' (writeL l).length c') ∧ w'.ownsRow w.heap.size 5 1 (.slice A' (writeL l).length c') (writeL l).length ((writeL l).map (Value.int .u8)) ∧ Below w.heap.size w w') := by
  have hl := h.len
  have H := hide h
  have HI := hide hi
  clear h hi
  go_enter Try.func21, Try.ntmps21
  go_wp2
  go_loopw [3, 8] (fun v i wr => ∃ (j : Nat) (A1 : Option Addr) (c1 : Nat), j ≤ n ∧ i = .int .i64 j ∧ v = .slice A1 (writeL (l.take j)).length c1 ∧ wr.ownsRow w.heap.size 5 1 (.slice A1 (writeL (l.take j)).length c1) (writeL (l.take j)).length ((writeL (l.take j)).map (Value.int .u8)) ∧ Below w.heap.size w wr) (fun _ i _ => n - (intOf i).toNat)
  case atStart => exact ⟨0, none, 0, Nat.zero_le _, rfl, rfl, ownNil _ _ _, Below.refl _ _⟩
  case round =>
    obtain ⟨j, A1, c1, hj, rfl, rfl, hown, hb⟩ := hrel
    have HO := hide hown
    have HB := hide hb
    clear hown hb
    by_cases hlt : j < n
    · obtain ⟨b1, o1, x, rfl, hb1, hx, hc1⟩ := (H.out.below HB.out).int hlt
      have HX := hide hx
      have hle : (writeL (l.take j)).length ≤ 70368744177664 := by have := (writeL_len (l.take j)).1; rw [List.length_take] at this; omega
      have c39 := tapp_any w.heap.size A1 c1 (writeL (l.take j)) x wr HO.out HB.out.size (HI.out x (mem_of_at hx)) hle
      have C39 := hide c39
      clear hx c39 hle
      generalize hL : writeL (l.take j) = pre at *
      have HL := hide hL
      clear hL
      generalize hP : pre.length = p at *
      have HP := hide hP
      clear hP
      go_wp2_with (fail)
      refine C39.out.mono ?_
      rintro e w2 ⟨A3, c3, rfl, hown3, hmv⟩
      have hb2 := hmv.below HB.out.size (fun k hk => (HO.out.lt k hk).1)
      have hpre : pre ++ codeN x = writeL (l.take (j + 1)) := by rw [take_snoc HX.out, writeL_snoc, HL.out]
      rw [hpre] at hown3 ⊢
      have HO3 := hide hown3
      have HB2 := hide hb2
      clear hown3 hb2 hmv hpre
      go_wp2
      go_roundw
      case rel => exact ⟨j + 1, A3, c3, by omega, by go_num, rfl, HO3.out, HB.out.trans HB2.out⟩
      case measure => simp [intOf]; omega
    · have HT := hide (show l.take j = l from List.take_of_length_le (by omega))
      rw [HT.out] at HO ⊢
      go_wp2
      go_ret
      exact ⟨A1, c1, rfl, HO.out, HB.out⟩
theorem own_below {base : Nat} {e : TypeId} {k : Nat} {v : Value} {n : Nat} {xs : List Value} {w w' : World} (h : w.ownsRow base e k v n xs) (hb : Below w.heap.size w w') : w'.ownsRow base e k v n xs := by
  refine ⟨h.1, ?_⟩
  rcases h.2 with hn | ⟨g, cap, cur, hv, hbg, hgg, rest⟩
  · exact .inl hn
  · exact .inr ⟨g, cap, cur, hv, hbg, (hb.block g (Array.getElem?_eq_some_iff.1 hgg).1).trans hgg, rest⟩
theorem infoB2 : (Try.prog.info? 5).map (fun i => (i.zero, i.size, i.bytes)) = some (some (.int .u8 0), 1, 1) := by kernel_rfl
set_option maxRecDepth 100000 in
theorem rwrite_any (A : Option Addr) (n c : Nat) (l : List Int) (w : World) (h : Sl w w.heap.size A n (l.map (Value.int .i64))) (hi : Ints l) (hn : n ≤ 1000000000) :
    Calls Try.prog 24 #[.slice A n c] w (fun e w' => ∃ A' c', e = .returned (.slice A' (writeL l).length c') ∧ w'.ownsRow w.heap.size 5 1 (.slice A' (writeL l).length c') (writeL l).length ((writeL l).map (Value.int .u8)) ∧ Below w.heap.size w w') := by
  obtain ⟨i0, hi0, hz0, hz1, hz2⟩ := info_parts infoB
  have hl := h.len
  have H := hide h
  have HI := hide hi
  clear h hi
  go_enter Try.func24, Try.ntmps24
  go_wp2
  go_loopw [3, 8] (fun v i wr => ∃ (j : Nat) (A1 : Option Addr) (c1 : Nat), j ≤ n ∧ i = .int .i64 j ∧ v = .slice A1 (writeL (l.take j)).length c1 ∧ wr.ownsRow w.heap.size 5 1 (.slice A1 (writeL (l.take j)).length c1) (writeL (l.take j)).length ((writeL (l.take j)).map (Value.int .u8)) ∧ Below w.heap.size w wr) (fun _ i _ => n - (intOf i).toNat)
  case atStart => exact ⟨0, none, 0, Nat.zero_le _, rfl, rfl, ownNil _ _ _, Below.refl _ _⟩
  case round =>
    obtain ⟨j, A1, c1, hj, rfl, rfl, hown, hb⟩ := hrel
    have HO := hide hown
    have HB := hide hb
    clear hown hb
    by_cases hlt : j < n
    · obtain ⟨b1, o1, x, rfl, hb1, hx, hc1⟩ := (H.out.below HB.out).int hlt
      have HX := hide hx
      have hle : (writeL (l.take j)).length ≤ 70368744177664 := by have := (writeL_len (l.take j)).1; rw [List.length_take] at this; omega
      have c20 := rapp_any none 0 0 [] x wr Sl.none_ (HI.out x (mem_of_at hx)) (by omega)
      have C20 := hide c20
      clear hx c20
      generalize hL : writeL (l.take j) = pre at *
      have HL := hide hL
      clear hL
      generalize hP : pre.length = p at *
      have HP := hide hP
      clear hP
      have hcl := codeN_len x
      go_wp2_with (fail)
      refine C20.out.mono ?_
      rintro e w2 ⟨A3, c3, rfl, hown3, hb3⟩
      simp only [List.nil_append] at hown3 ⊢
      have hsl3 := Sl.of_own hown3
      have hkeep := own_below HO.out hb3
      have hsz := hb3.size
      have hlt3 := fun k hk => (HO.out.lt k hk)
      have HS3 := hide hsl3
      have HK := hide hkeep
      have HB3 := hide hb3
      clear hown3 hb3 hsl3 hkeep
      go_wp2_with (at_builtin; refine wpList_append_sl _ rfl (.tmp 12) (.tmp 14) 22 rfl w.heap.size 5 i0 (.int .u8 0) 1 Try.underlying22 hi0 hz0 hz1 hz2 rfl (.slice A1 p c1) p (pre.map (Value.int .u8)) rfl HK.out w2.heap.size A3 (codeN x).length c3 ((codeN x).map (Value.int .u8)) rfl HS3.out (ints_one _ _) (by simp only [maxLen]; omega) (by omega) (by have := HB.out.size; omega) ?_; intro v1 w3 hown4 hg4 hat4)
      have hb4 : Below w.heap.size w w3 := (HB.out.trans (HB3.out.mono HB.out.size)).grown hg4 (by have := HB.out.size; omega) (fun k hk => (HO.out.lt k hk).1)
      obtain ⟨A4, c4, hv4, _, _⟩ := own_slice hown4
      subst hv4
      have hpre : pre ++ codeN x = writeL (l.take (j + 1)) := by rw [take_snoc HX.out, writeL_snoc, HL.out]
      have hpl : p + (codeN x).length = (writeL (l.take (j + 1))).length := by rw [← hpre, List.length_append, HP.out]
      rw [← List.map_append, hpre, hpl] at hown4
      rw [hpl]
      have HO4 := hide hown4
      have HB4 := hide hb4
      clear hown4 hb4 hg4 hat4 hpre hpl
      go_roundw
      case rel => exact ⟨j + 1, A4, c4, by omega, by go_num, rfl, HO4.out, HB4.out⟩
      case measure => simp [intOf]; omega
    · have HT := hide (show l.take j = l from List.take_of_length_le (by omega))
      rw [HT.out] at HO ⊢
      go_wp2
      go_ret
      exact ⟨A1, c1, rfl, HO.out, HB.out⟩
def NumsEnd (l : List Int) (w : World) (e : Ending) (w' : World) : Prop :=
  ∃ A n c, e = .returned (.tuple #[.slice A n c, .int .i64 (numsV l).2]) ∧ Sl w' w'.heap.size A n ((numsV l).1.map (Value.int .i64)) ∧ n ≤ l.length ∧ Below w.heap.size w w'
theorem nums_none {l : List Int} {w w' : World} (h : numsF l.length l 0 = none) (hb : Below w.heap.size w w') : NumsEnd l w (.returned (.tuple #[.slice none 0 0, .int .i64 13])) w' := by
  unfold NumsEnd; rw [numsV_none h]; exact ⟨none, 0, 0, rfl, Sl.none_, Nat.zero_le _, hb⟩
theorem nums_some {l xs : List Int} {A : Option Addr} {n c : Nat} {w w' : World} (h : numsF l.length l 0 = some xs) (hs : Sl w' w'.heap.size A n (xs.map (Value.int .i64))) (hn : n ≤ l.length) (hb : Below w.heap.size w w') : NumsEnd l w (.returned (.tuple #[.slice A n c, .int .i64 0])) w' := by
  unfold NumsEnd; rw [numsV_some h]; exact ⟨A, n, c, rfl, hs, hn, hb⟩
end Go.Proofs.Ytlcgpldngooekaa
