/- The walks of the laws on the list of all sequences: they return true. -/
import Derived.Test.YtphkofgbpfcoiaaCAll
import Derived.Test.YtphkofgbpfcoiaaLWeight
import Derived.Test.YtphkofgbpfcoiaaCMod
namespace Go.Proofs.Ytphkofgbpfcoiaa
open Go.RowKit Go.ChangeShapes Go.WideShapes
set_option linter.unusedVariables false
set_option maxRecDepth 100000 in
theorem drawAllRaw_walk (A : Option Addr) (len0 cap0 : Nat) (z : List Int) (w : World) (w0 : IsRow .i64 w A len0 cap0 z) :
    Calls Try.prog 8 #[.slice A len0 cap0] w fun e w' => e = .returned (.bool true) ∧ Below w.heap.size w w' := by
  obtain ⟨hsl, hf, hlc, hzl, hcm⟩ := row_fits w0
  have C4 := hide awake_any
  have hn0 : len0 ≤ 9223372036854775807 := by omega
  clear w0 hlc hcm
  generalize z.take len0 = l at *
  have C1 := hide (rweight_any A len0 cap0 w.heap.size l w hsl hf hn0)
  unfold WeightEnd at C1
  by_cases h100 : 100 < len0
  · clear hsl hf hzl
    go_enter Try.func8, Try.ntmps8
    go_wp2_with (first | (go_at_call 10; refine C1.out.mono ?_; rintro e w' ⟨rfl, rfl⟩) | (go_at_call 11; refine (C4.out _).mono ?_; rintro e w' ⟨rfl, hb1⟩))
    go_ret
    exact ⟨rfl, hb1⟩
  · have C2 := hide (all_any A len0 cap0 l w hsl hf (by omega))
    by_cases hw : WOk l
    · rw [(wV_yes hw).1, (wV_yes hw).2] at C1
      have hp := prodL_pos hw.1
      by_cases hbig : 100000 < prodL l
      · have HN := hide (show ¬ AllOk l from fun c => by have := c.2; omega)
        clear hsl hf hzl hw
        generalize hP : prodL l = P at *
        clear hP
        go_enter Try.func8, Try.ntmps8
        go_wp2_with fail
        refine C1.out.mono ?_; rintro e w' ⟨rfl, rfl⟩
        go_wp2_with fail
        refine C2.out.mono ?_
        rintro e w' (⟨hyes, _⟩ | ⟨_, rfl, rfl⟩)
        · exact absurd hyes HN.out
        · go_wp2_with (go_at_call 11; refine (C4.out _).mono ?_; rintro e w' ⟨rfl, hb1⟩)
          go_ret
          exact ⟨rfl, hb1⟩
      · have HOK := hide (show AllOk l from ⟨hw, by omega⟩)
        by_cases h2000 : 2000 < prodL l
        · clear hsl hf hzl hw C2
          generalize prodL l = P at *
          go_enter Try.func8, Try.ntmps8
          go_wp2_with (first | (go_at_call 10; refine C1.out.mono ?_; rintro e w' ⟨rfl, rfl⟩) | (go_at_call 11; refine (C4.out _).mono ?_; rintro e w' ⟨rfl, hb1⟩))
          go_ret
          exact ⟨rfl, hb1⟩
        · clear hsl hf hzl hw
          unfold AllEnd at C2
          obtain ⟨m, hm⟩ := Int.eq_ofNat_of_zero_le (show 0 ≤ prodL l by omega)
          rw [hm] at C1 C2 hbig h2000
          rw [Int.toNat_natCast] at C2
          clear hp hm
          go_enter Try.func8, Try.ntmps8
          go_wp2_with fail
          refine C1.out.mono ?_; rintro e w' ⟨rfl, rfl⟩
          go_wp2_with fail
          refine C2.out.mono ?_
          rintro e w' (⟨_, ⟨cells, rfl, hown, hrows⟩, hb⟩ | ⟨hno, _⟩)
          · have HB := hide hb
            clear hown hrows hb
            go_wp2_with (go_at_call 11; refine (C4.out _).mono ?_; rintro e w' ⟨rfl, hb1⟩)
            go_ret
            exact ⟨rfl, HB.out.trans (hb1.mono HB.out.size)⟩
          · exact absurd HOK.out hno
    · rw [(wV_no hw).1, (wV_no hw).2] at C1
      have HN := hide (show ¬ AllOk l from fun c => hw c.1)
      clear hsl hf hzl hw
      go_enter Try.func8, Try.ntmps8
      go_wp2_with fail
      refine C1.out.mono ?_; rintro e w' ⟨rfl, rfl⟩
      go_wp2_with fail
      refine C2.out.mono ?_
      rintro e w' (⟨hyes, _⟩ | ⟨_, rfl, rfl⟩)
      · exact absurd hyes HN.out
      · go_wp2_with (go_at_call 11; refine (C4.out _).mono ?_; rintro e w' ⟨rfl, hb1⟩)
        go_ret
        exact ⟨rfl, hb1⟩
theorem prod_five : ∀ {rs : List Int}, (∀ m ∈ rs, 1 ≤ m ∧ m ≤ 5) → prodL rs ≤ 5 ^ rs.length
  | [], _ => by simp [prodL]
  | a :: rs, h => by
    have h1 := h a List.mem_cons_self
    have h2 := prod_five (rs := rs) fun m hm => h m (List.mem_cons_of_mem _ hm)
    have h3 := prodL_pos (l := rs) fun m hm => (h m (List.mem_cons_of_mem _ hm)).1
    have h4 := Int.mul_le_mul h1.2 h2 (by omega) (by omega)
    simp only [prodL, List.length_cons]
    rw [Int.pow_succ, Int.mul_comm (5 ^ rs.length) 5]; exact h4
theorem five_le {j : Nat} (h : j ≤ 8) : (5 : Int) ^ j ≤ 390625 := by
  rcases (show j = 0 ∨ j = 1 ∨ j = 2 ∨ j = 3 ∨ j = 4 ∨ j = 5 ∨ j = 6 ∨ j = 7 ∨ j = 8 by omega) with rfl | rfl | rfl | rfl | rfl | rfl | rfl | rfl | rfl <;> decide
def Smalls (rs : List Int) : Prop := ∀ m ∈ rs, 1 ≤ m ∧ m ≤ 5
theorem smalls_nil : Smalls [] := by intro m hm; cases hm
theorem smalls_snoc {rs : List Int} {x : Int} (h : Smalls rs) (hx : 1 ≤ x ∧ x ≤ 5) : Smalls (rs ++ [x]) := by
  intro m hm
  rcases List.mem_append.1 hm with hm | hm
  · exact h m hm
  · simp at hm; subst hm; exact hx
theorem smalls_fits {rs : List Int} (h : Smalls rs) : Fits rs := fun m hm => by have := h m hm; unfold Fit; omega
set_option maxRecDepth 100000 in
set_option maxHeartbeats 400000 in
theorem drawAll_walk (A : Option Addr) (len0 cap0 : Nat) (z : List Int) (w : World) (w0 : IsRow .i64 w A len0 cap0 z) :
    Calls Try.prog 7 #[.slice A len0 cap0] w fun e w' => e = .returned (.bool true) ∧ Below w.heap.size w w' := by
  obtain ⟨hsl, hf, hlc, hzl, hcm⟩ := row_fits w0
  have C4 := hide awake_any
  have HM := hide made_mod
  have hn : len0 ≤ 9223372036854775807 := by omega
  clear w0 hlc hf hcm hzl
  generalize z.take len0 = l at *
  obtain ⟨i0, hi, hz0, hz1, hz2⟩ := info_parts info2
  go_enter Try.func7, Try.ntmps7
  go_wp2
  go_loopw [3, 4, 5] (fun v x i wr => ∃ (j : Nat) (rs : List Int) (A1 : Option Addr) (c1 : Nat) (p : Int), j ≤ 8 ∧ j ≤ len0 ∧ rs.length = j ∧ Smalls rs ∧ p = prodL rs ∧ i = .int .i64 j ∧ x = .int .i64 p ∧ v = .slice A1 j c1 ∧ wr.ownsRow w.heap.size 2 1 (.slice A1 j c1) j (rs.map (Value.int .i64)) ∧ Below w.heap.size w wr) (fun _ _ i _ => len0 - (intOf i).toNat)
  case atStart => exact ⟨0, [], none, 0, 1, by omega, by omega, rfl, smalls_nil, rfl, rfl, rfl, rfl, World.ownsRow_nil _ _ _ _, Below.refl _ _⟩
  case round =>
    obtain ⟨j, rs, A1, c1, p, hj8, hjn, hrs, hsm, hp, rfl, rfl, rfl, hown, hbl⟩ := hrel
    have h5 := prod_five hsm
    rw [hrs] at h5
    have h58 := five_le hj8
    have hp1 := prodL_pos (l := rs) fun m hm => (hsm m hm).1
    rw [← hp] at h5 hp1
    have hp2 : p ≤ 390625 := by omega
    have HRS := hide hrs
    have HSM := hide hsm
    have HP := hide hp
    have HOW := hide hown
    have HB := hide hbl
    clear hrs hsm hp hown hbl h5 h58
    by_cases hgo : j < len0 ∧ j < 8
    · obtain ⟨h1, h2⟩ := hgo
      obtain ⟨b, o, x, rfl, hbB, hx, hc⟩ := (hsl.below HB.out).int h1
      have hx0 := Int.emod_nonneg x (b := 5) (by omega)
      have hx1 := Int.emod_lt_of_pos x (b := 5) (by omega)
      have c2 := HM.out x 5 (by omega) (by omega)
      generalize x % 5 = q at *
      have C2 := hide c2
      have hpq : 0 ≤ p * (1 + q) := Int.mul_nonneg (by omega) (by omega)
      have hpq2 : p * (1 + q) ≤ 390625 * 5 := Int.mul_le_mul hp2 (by omega) (by omega) (by omega)
      clear hx c2 hsl
      go_wp2_with (first | (go_at_call 19; refine (C2.out _).mono ?_; rintro e w' ⟨rfl, rfl⟩) | (at_builtin; refine wpList_append_sl _ rfl (.tmp 27) (.tmp 29) 22 rfl w.heap.size 2 i0 (.int .i64 0) 8 Try.underlying22 hi hz0 hz1 hz2 rfl (.slice A1 j c1) j (rs.map (Value.int .i64)) rfl (HOW.out.alloc _) (wr.heap.size + 1) (some ⟨wr.heap.size, 0, none⟩) 1 1 [.int .i64 (1 + q)] rfl (Sl.one _ _ _) (by intro u hu; simp at hu; subst hu; rfl) (by simp only [maxLen]; omega) (by omega) (by have := HB.out.size; simp; omega) ?_; intro v1 w1 hown1 hg1 hat1))
      have hb1 : Below w.heap.size w w1 := (HB.out.alloc HB.out.size _).grown hg1 (by have := HB.out.size; simp; omega) (by intro k hk; exact ((HOW.out.alloc (.cells #[.int .i64 (1 + q)] 2)).lt k hk).1)
      obtain ⟨A2, c2, hv, _, _⟩ := own_slice hown1
      subst hv
      have hown2 : w1.ownsRow w.heap.size 2 1 (.slice A2 (j + 1) c2) (j + 1) ((rs ++ [1 + q]).map (Value.int .i64)) := by simpa using hown1
      go_roundw
      case rel => exact ⟨j + 1, rs ++ [1 + q], A2, c2, p * (1 + q), by omega, by omega, by simp [HRS.out], smalls_snoc HSM.out (by omega), by rw [prodL_snoc, ← HP.out], by go_num, rfl, rfl, hown2, hb1⟩
      case measure => simp [intOf]; omega
    · have HA := hide (all_any A1 j c1 rs wr (Sl.of_own HOW.out) (smalls_fits HSM.out) (by omega))
      have hgo2 : len0 ≤ j ∨ (j < len0 ∧ 8 ≤ j) := by omega
      by_cases hbig : 100000 < p
      · have HN := hide (show ¬ AllOk rs from fun c => by have := c.2; have := HP.out; omega)
        clear hsl hgo
        rcases hgo2 with h1 | ⟨h1, h2⟩
        all_goals
          go_wp2_with fail
          refine HA.out.mono ?_
          rintro e w' (⟨hyes, _⟩ | ⟨_, rfl, rfl⟩)
          · exact absurd hyes HN.out
          · go_wp2_with (go_at_call 11; refine (C4.out _).mono ?_; rintro e w' ⟨rfl, hb1⟩)
            go_ret
            exact ⟨rfl, HB.out.trans (hb1.mono HB.out.size)⟩
      · have hok : AllOk rs := ⟨⟨fun m hm => (HSM.out m hm).1, by have := HP.out; omega⟩, by have := HP.out; omega⟩
        have HOK := hide hok
        obtain ⟨m, hm⟩ := Int.eq_ofNat_of_zero_le (show 0 ≤ p by omega)
        have hpm : (prodL rs).toNat = m := by have := HP.out; omega
        have hpm2 : prodL rs = m := by have := HP.out; omega
        unfold AllEnd at HA
        rw [hpm] at HA
        have HPM := hide hpm2
        have hm1 : m ≤ 100000 := by omega
        have hmp : 1 ≤ m := by omega
        subst hm
        clear hsl hgo hok hpm hpm2
        rcases hgo2 with h1 | ⟨h1, h2⟩
        all_goals
          go_wp2_with fail
          refine HA.out.mono ?_
          rintro e w2 (⟨_, ⟨cells, rfl, hown2, hrows⟩, hb2⟩ | ⟨hno, _⟩)
          · have HO2 := hide hown2
            have HR2 := hide hrows
            have HB2 := hide hb2
            clear hown2 hrows hb2
            go_wp2
            go_loop [8] (fun i => ∃ k : Nat, k ≤ m + m / 200 + 1 ∧ i = .int .i64 k) (fun i => m + m / 200 + 2 - (intOf i).toNat)
            case atStart => exact ⟨0, by omega, rfl⟩
            case round =>
              obtain ⟨k, hk, rfl⟩ := hrel
              by_cases hlt : k < m
              · obtain ⟨s, hs⟩ : ∃ s, cells[k]? = some s := ⟨_, List.getElem?_eq_getElem (by have := HO2.out.1; omega)⟩
                obtain ⟨A3, c3, rfl, hsl3⟩ := HR2.out k s hs
                have hc := (HO2.out.cellAt k (by omega)).trans hs
                have hrsl := (Sl.of_own HOW.out).below HB2.out
                have hl3 : rs.length = j := HRS.out
                rw [hl3] at hsl3 hc
                have hap : AllPos rs := fun x hx => (HSM.out x hx).1
                have C5 := hide (rnumber_any A1 A3 j c1 _ j c3 _ rs (seqL rs k) w2 hrsl (smalls_fits HSM.out) (by omega) hsl3.sl (by omega))
                have HOK3 := hide (show WOk rs ∧ inL rs (seqL rs k) from ⟨HOK.out.1, seqL_in k hap⟩)
                have HV3 := hide (show numL rs (seqL rs k) = k by rw [numL_seqL k hap, HPM.out, Int.emod_eq_of_lt (by omega) (by omega)])
                clear hs hsl3 hrsl hl3 hap
                go_wp2_with fail
                refine C5.out.mono ?_
                rintro e w3 ⟨⟨_, rfl⟩ | ⟨hno, _⟩, rfl⟩
                · rw [HV3.out]
                  go_wp2
                  go_round
                  case rel => exact ⟨k + (1 + m / 200), by omega, by go_num⟩
                  case measure => simp [intOf]; omega
                · exact absurd HOK3.out hno
              · go_wp2_with (go_at_call 11; refine (C4.out _).mono ?_; rintro e w' ⟨rfl, hb1⟩)
                go_ret
                have hb4 := HB.out.trans (HB2.out.mono HB.out.size)
                exact ⟨rfl, hb4.trans (hb1.mono hb4.size)⟩
          · exact absurd HOK.out hno
end Go.Proofs.Ytphkofgbpfcoiaa
