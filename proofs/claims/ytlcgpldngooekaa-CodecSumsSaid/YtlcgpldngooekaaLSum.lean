/- The walk of the law on the checksum: it returns true. -/
import Derived.Test.YtlcgpldngooekaaSumPlain
import Derived.OpenShut
namespace Go.Proofs.Ytlcgpldngooekaa
open Go.RowKit Go.ChangeShapes Go.WideShapes
set_option linter.unusedVariables false
theorem info5 : (Try.prog.info? 5).map (fun i => (i.zero, i.size, i.bytes)) = some (some (.int .u8 0), 1, 1) := by kernel_rfl
theorem own_empty (w : World) (e : TypeId) : (w.alloc (.cells #[] e)).ownsRow w.heap.size e 1 (.slice (some ⟨w.heap.size, 0, none⟩) 0 0) 0 [] :=
  ⟨rfl, .inr ⟨w.heap.size, 0, #[], rfl, Nat.le_refl _, heap_alloc_new w _, Nat.le_refl _, Nat.zero_le _, rfl, rfl⟩⟩
set_option maxRecDepth 100000 in
theorem codecSums_walk (A : Option Addr) (len0 cap0 : Nat) (z : List Int) (at_ : Int) (x : Int) (w : World) (w0 : IsRow .u8 w A len0 cap0 z) (w1 : (Lit.int .i64 at_).wf = true) (w2 : (Lit.int .u8 x).wf = true) :
    Calls Try.prog 3 #[.slice A len0 cap0, .int .i64 at_, .int .u8 x] w fun e w' => e = .returned (.bool true) ∧ Below w.heap.size w w' := by
  obtain ⟨hsl, hwf, hlc, hcm, hzl⟩ := w0.sl
  have hby : Bytes (z.take len0) := fun y hy => by have := bounds_u8 (hwf y hy); omega
  have hx := bounds_u8 w2
  have C4 := hide awake_any
  clear w0 w1 w2 hwf
  generalize z.take len0 = z0 at *
  by_cases h0 : 5000 < len0
  · clear hsl hby hx hzl hlc hcm
    go_enter Try.func3, Try.ntmps3
    go_wp2_with (go_at_call 12; refine (C4.out _).mono ?_; rintro e w' ⟨rfl, hb1⟩)
    go_ret
    exact ⟨rfl, hb1⟩
  · have HZ := hide (fun w h => sum_any A len0 cap0 w.heap.size z0 w h hby (by omega))
    have HR := hide (fun w h => rsum_any A len0 cap0 w.heap.size z0 w h hby (by omega))
    have H := hide hsl
    by_cases h1 : len0 = 0
    · subst h1
      clear hsl hby hx hzl hlc hcm
      go_enter Try.func3, Try.ntmps3
      go_wp2_with fail
      refine (HZ.out _ H.out).mono ?_; rintro e w' ⟨rfl, rfl⟩
      go_wp2_with fail
      refine (HR.out _ H.out).mono ?_; rintro e w' ⟨rfl, rfl⟩
      go_wp2_with (go_at_call 12; refine (C4.out _).mono ?_; rintro e w' ⟨rfl, hb1⟩)
      go_ret
      exact ⟨rfl, hb1⟩
    · obtain ⟨i0, hi, hz0, hz1, hz2⟩ := info_parts info5
      have hk0 := Int.emod_nonneg at_ (b := (len0 : Int)) (by omega)
      have hk1 := Int.emod_lt_of_pos at_ (b := (len0 : Int)) (by omega)
      obtain ⟨k, hk⟩ := Int.eq_ofNat_of_zero_le hk0
      rw [hk] at hk1
      have hkl : k < len0 := by omega
      have c5 := made_int at_ len0 (by omega) (by omega)
      rw [hk] at c5
      have C5 := hide c5
      obtain ⟨y, hy⟩ : ∃ y, z0[k]? = some y := ⟨_, List.getElem?_eq_getElem (by omega)⟩
      have hyb := hby y (mem_of_at hy)
      have hset := sumV_set z0 k y x hy hyb (by omega)
      have HB := hide (bytes_set (k := k) hby (x := x) (by omega))
      have HY := hide hy
      have HN := hide h1
      clear c5 hk hk0 hk1 hby hy hzl hx h1
      have hpos : 0 < len0 := by have := HN.out; omega
      have hne0 : ((len0 : Int) == 0) = false := by simp; omega
      generalize hS : sumV (z0.set k x) = S at *
      have HS := hide hS
      clear hS
      generalize hT : sumV z0 = T at *
      have HT := hide hT
      clear hT
      rcases two (y == x) with e1 | e1
      all_goals
        rw [e1] at hset
        go_enter Try.func3, Try.ntmps3
        go_wp2_with fail
        refine (HZ.out _ H.out).mono ?_; rintro e w' ⟨he, rfl⟩; rw [HT.out] at he; subst he
        go_wp2_with fail
        refine (HR.out _ H.out).mono ?_; rintro e w' ⟨he, rfl⟩; rw [HT.out] at he; subst he
        go_wp2_with (at_builtin; refine wpList_append_sl _ rfl (.tmp 25) (.tmp 26) 22 rfl w.heap.size 5 i0 (.int .u8 0) 1 Try.underlying22 hi hz0 hz1 hz2 rfl (.slice (some ⟨w.heap.size, 0, none⟩) 0 0) 0 [] rfl (own_empty w 5) w.heap.size A len0 cap0 (z0.map (Value.int .u8)) rfl (H.out.alloc (Nat.le_refl _) _) (ints_one _ _) (by simp only [maxLen]; omega) (by omega) (by simp) ?_; intro v1 w1 hown1 hg1 hat1)
        simp only [Nat.zero_add, List.nil_append] at hown1
        have hb1 : Below w.heap.size w w1 := ((Below.refl _ _).alloc (Nat.le_refl _) _).grown hg1 (by simp) (by intro q hq; simp [Value.ownBlock] at hq; omega)
        obtain ⟨g, cap, hv, hg, hgl, hnc, hcm2⟩ := own_form hown1 hpos
        subst hv
        have hc : w1.cell? ⟨g, k, none⟩ = some (.int .u8 y) := by rw [hown1.cellAt k (by omega), List.getElem?_map, HY.out]; rfl
        have hfz := hown1.frozenAt k
        have hown2 := (hown1.stored k (.int .u8 x)).1
        rw [← List.map_set] at hown2
        have hs2 := sum_any _ len0 cap _ (z0.set k x) _ (Sl.of_own hown2) HB.out (by omega)
        have HS2 := hide hs2
        have HB1 := hide hb1
        have HG := hide hg
        clear hown1 hown2 hs2 hg1 hat1 hb1 hg hsl hcm2
        refine (C5.out _).mono ?_; rintro e w' ⟨rfl, rfl⟩
        go_wp2_with fail
        refine (HS2.out).mono ?_; rintro e w' ⟨he, rfl⟩; rw [HS.out] at he; subst he
        go_wp2_with (go_at_call 12; refine (C4.out _).mono ?_; rintro e w' ⟨rfl, hb2⟩)
        go_ret
        exact ⟨rfl, (HB1.out.setCell HG.out _).trans (hb2.mono (by have := HB1.out.size; simp [World.setCell]; omega))⟩
end Go.Proofs.Ytlcgpldngooekaa
