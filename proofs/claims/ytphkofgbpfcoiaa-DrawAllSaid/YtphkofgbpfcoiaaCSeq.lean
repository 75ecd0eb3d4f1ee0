/- Contracts of the comparison of lists, and of the sequence with a number. -/
import Derived.Test.YtphkofgbpfcoiaaCNumber
import Derived.BigRegion
namespace Go.Proofs.Ytphkofgbpfcoiaa
open Go.RowKit
set_option linter.unusedVariables false
def SameEnd (a b : List Int) (w : World) (e : Ending) (w' : World) : Prop := e = .returned (.bool (decide (a = b))) ∧ ∃ n, w' = w.drewN n
theorem same_no {a b : List Int} {w : World} {n : Nat} (h : a ≠ b) : SameEnd a b w (.returned (.bool false)) (w.drewN n) := ⟨by rw [decide_eq_false h], n, rfl⟩
theorem same_yes {a b : List Int} {w : World} {n : Nat} (h : a = b) : SameEnd a b w (.returned (.bool true)) (w.drewN n) := ⟨by rw [decide_eq_true h], n, rfl⟩
set_option maxRecDepth 100000 in
theorem same_any (A A2 : Option Addr) (n c B n2 c2 B2 : Nat) (a b : List Int) (w : World) (h : Sl w B A n (a.map (Value.int .i64))) (hn : n ≤ 9223372036854775807) (k : Sl w B2 A2 n2 (b.map (Value.int .i64))) (hn2 : n2 ≤ 9223372036854775807) :
    Calls Try.prog 16 #[.slice A n c, .slice A2 n2 c2] w (SameEnd a b w) := by
  have hl := h.len
  have kl := k.len
  by_cases hlen : n = n2
  · subst hlen
    go_enter Try.func16, Try.ntmps16
    go_wp2
    go_loopw [13] (fun i wr => ∃ j : Nat, j ≤ n ∧ a.take j = b.take j ∧ i = .int .i64 j ∧ ∃ q, wr = w.drewN q) (fun i _ => n - (intOf i).toNat)
    case atStart => exact ⟨0, Nat.zero_le _, rfl, rfl, 0, rfl⟩
    case round =>
      obtain ⟨j, hj, he, rfl, q, rfl⟩ := hrel
      have HE := hide he
      clear he
      by_cases hlt : j < n
      · obtain ⟨b1, o1, x, rfl, hb1, hx, hc1⟩ := h.int hlt
        obtain ⟨b2, o2, y, rfl, hb2, hy, hc2⟩ := k.int hlt
        have HX := hide hx
        have HY := hide hy
        by_cases hxy : x = y
        · have hne : (x != y) = false := by simp [hxy]
          have HXY := hide hxy
          clear hx hy h k hl kl hxy
          go_wp2
          go_quiet (fail)
          go_wp2
          go_roundw
          case rel => exact ⟨j + 1, by omega, by rw [take_snoc HX.out, take_snoc HY.out, HE.out, HXY.out], by go_num, _, rfl⟩
          case measure => simp [intOf]; omega
        · have hne : (x != y) = true := by simpa using hxy
          have HN := hide (show a ≠ b from fun c => by subst c; rw [hx] at hy; injection hy with hy; exact hxy hy)
          clear hx hy h k hl kl hxy
          go_wp2
          go_quiet (fail)
          go_wp2
          go_ret
          rw [World.drewN_drewN]
          exact same_no HN.out
      · have HN := hide (show a = b by have := HE.out; rwa [List.take_of_length_le (by omega), List.take_of_length_le (by omega)] at this)
        clear h k hl kl
        go_wp2
        go_ret
        exact same_yes HN.out
  · have HN := hide (show a ≠ b from fun c => by subst c; omega)
    have hne : ((n : Int) != n2) = true := by simp; omega
    clear h k hl kl hlen
    go_enter Try.func16, Try.ntmps16
    go_wp2
    go_ret
    exact same_no (n := 0) HN.out
theorem info2 : (Try.prog.info? 2).map (fun i => (i.zero, i.size, i.bytes)) = some (some (.int .i64 0), 1, 8) := by kernel_rfl
/-- what stands in the row when j elements are still to be set -/
def half (rs : List Int) (N : Int) (j : Nat) : List Int := List.replicate j 0 ++ (seqL rs N).drop j
theorem half_len (rs : List Int) (N : Int) (j : Nat) (h : j ≤ rs.length) : (half rs N j).length = rs.length := by simp [half, seqL_len]; omega
theorem half_all (rs : List Int) (N : Int) : half rs N rs.length = List.replicate rs.length 0 := by
  unfold half; rw [List.drop_of_length_le (by rw [seqL_len]; exact Nat.le_refl _), List.append_nil]
theorem half_zero (rs : List Int) (N : Int) : half rs N 0 = seqL rs N := rfl
theorem seqL_at : ∀ (rs : List Int) (N : Int) (j : Nat) (r : Int), rs[j]? = some r → (seqL rs N)[j]? = some (N / prodL (rs.drop (j + 1)) % r)
  | [], _, _, _, h => by simp at h
  | a :: rs, N, 0, r, h => by simp at h; subst h; simp [seqL]
  | a :: rs, N, j + 1, r, h => by
    simp only [seqL, List.getElem?_cons_succ, List.drop_succ_cons] at h ⊢
    exact seqL_at rs N j r h
theorem half_step (rs : List Int) (N : Int) (j : Nat) (r : Int) (h : rs[j]? = some r) : (half rs N (j + 1)).set j (N / prodL (rs.drop (j + 1)) % r) = half rs N j := by
  unfold half
  have h1 := drop_cons (seqL_at rs N j r h)
  rw [h1, List.set_append_left (h := by simp), List.replicate_succ', List.set_append_right (h := by simp)]
  simp
theorem quo_step {rs : List Int} {N : Int} {j : Nat} {r : Int} (h : rs[j]? = some r) (hp : AllPos rs) : N / prodL (rs.drop (j + 1)) / r = N / prodL (rs.drop j) := by
  rw [drop_cons h, prodL, Int.mul_comm, Int.ediv_ediv_of_nonneg]
  have := prodL_pos (l := rs.drop (j + 1)) fun m hm => hp m (List.mem_of_mem_drop hm)
  omega
def SeqEnd (rs : List Int) (N : Int) (w : World) (e : Ending) (w' : World) : Prop :=
  ((WOk rs ∧ 0 ≤ N ∧ N < prodL rs) ∧ (∃ A c, e = .returned (.tuple #[.slice A rs.length c, .bool true]) ∧ w'.ownsRow w.heap.size 2 1 (.slice A rs.length c) rs.length ((seqL rs N).map (Value.int .i64))) ∧ Below w.heap.size w w') ∨
  (¬ (WOk rs ∧ 0 ≤ N ∧ N < prodL rs) ∧ e = .returned (.tuple #[.slice none 0 0, .bool false]) ∧ w = w')
theorem seq_no {rs : List Int} {N : Int} {w : World} (h : ¬ (WOk rs ∧ 0 ≤ N ∧ N < prodL rs)) : SeqEnd rs N w (.returned (.tuple #[.slice none 0 0, .bool false])) w := .inr ⟨h, rfl, rfl⟩
set_option maxRecDepth 100000 in
set_option maxHeartbeats 400000 in
theorem seq_any (A : Option Addr) (n c B : Nat) (rs : List Int) (N : Int) (w : World) (h : Sl w B A n (rs.map (Value.int .i64))) (hBw : B ≤ w.heap.size) (hf : Fits rs) (hn : n ≤ 35184372088832) :
    Calls Try.prog 14 #[.slice A n c, .int .i64 N] w (SeqEnd rs N w) := by
  have hl := h.len
  have C1 := hide (weight_any A n c B rs w h hf (by omega))
  unfold WeightEnd at C1
  by_cases hw : WOk rs
  · rw [(wV_yes hw).1, (wV_yes hw).2] at C1
    by_cases h0 : N < 0
    · have HN := hide (show ¬ (WOk rs ∧ 0 ≤ N ∧ N < prodL rs) from fun c => by omega)
      clear h hw hf hl
      go_enter Try.func14, Try.ntmps14
      go_wp2_with (go_at_call 9; refine C1.out.mono ?_; rintro e w' ⟨rfl, rfl⟩)
      go_ret2
      exact seq_no HN.out
    · by_cases h1 : prodL rs ≤ N
      · have HN := hide (show ¬ (WOk rs ∧ 0 ≤ N ∧ N < prodL rs) from fun c => by omega)
        clear h hw hf hl
        generalize hP : prodL rs = P at *
        have HPE := hide hP
        clear hP
        go_enter Try.func14, Try.ntmps14
        go_wp2_with (go_at_call 9; refine C1.out.mono ?_; rintro e w' ⟨rfl, rfl⟩)
        go_ret2
        exact seq_no (by rw [HPE.out]; exact HN.out)
      · have HW := hide hw
        have hN1 : N < prodL rs := by omega
        have hN2 : N ≤ 4611686018427387904 := by have := hw.2; omega
        obtain ⟨i0, hi, hz0, hz1, hz2⟩ := info_parts info2
        have HL := hide hl
        have H := hide h
        have HNP := hide hN1
        clear hw hf hl h1 h hN1
        have h1 : ¬ prodL rs ≤ N := by have := HNP.out; omega
        generalize hP : prodL rs = P at *
        have HPE := hide hP
        clear hP
        go_enter Try.func14, Try.ntmps14
        go_wp2_with (first | (go_at_call 9; refine C1.out.mono ?_; rintro e w' ⟨rfl, rfl⟩) | (at_make; refine wpList_make_full _ rfl (.tmp 27) (.tmp 27) 22 rfl w.heap.size 2 i0 (.int .i64 0) 1 Try.underlying22 hi hz0 hz1 .i64 .i64 n n n rfl rfl rfl rfl (by rw [hz2]; omega) (by simp only [maxLen]; omega) (Nat.le_refl _) ?_; intro w1 hown1 hg1))
        have hown2 : w1.ownsRow w.heap.size 2 1 (.slice (some ⟨w.heap.size, 0, none⟩) n n) n ((half rs N n).map (Value.int .i64)) := by
          have e : (madeCells (Value.int IntKind.i64 0).cells (n * 1)).toList = (half rs N n).map (Value.int .i64) := by
            rw [← HL.out, half_all, List.map_replicate, Nat.mul_one]
            exact toList_madeCells_one _ _
          rw [e] at hown1; exact hown1
        have hb1 : Below w.heap.size w w1 := (Below.refl _ _).grown hg1 (Nat.le_refl _) (by intro q hq; cases hq)
        have HO := hide hown2
        have HB1 := hide hb1
        clear hown1 hown2 hg1 hb1
        go_loopw [1, 9] (fun x i wr => ∃ (j : Nat) (m : Int), j ≤ n ∧ m = N / prodL (rs.drop j) ∧ 0 ≤ m ∧ m ≤ 4611686018427387904 ∧ i = .int .i64 ((j : Int) - 1) ∧ x = .int .i64 m ∧ wr.ownsRow w.heap.size 2 1 (.slice (some ⟨w.heap.size, 0, none⟩) n n) n ((half rs N j).map (Value.int .i64)) ∧ Below w.heap.size w wr) (fun _ i _ => (intOf i + 1).toNat)
        case atStart => exact ⟨n, N, Nat.le_refl _, by rw [List.drop_of_length_le (by have := HL.out; omega)]; simp [prodL], by omega, hN2, rfl, rfl, HO.out, HB1.out⟩
        case round =>
          obtain ⟨j, m, hj, hm, hm0, hm1, rfl, rfl, hown, hbl⟩ := hrel
          have HM := hide hm
          have HB := hide hbl
          have HOW := hide hown
          clear hm hbl hown
          rcases j with _ | j
          · go_wp2
            refine bodyPost_ret (results_tmp2 rfl _ _ _) rfl ?_
            refine .inl ⟨⟨HW.out, by omega, by rw [HPE.out]; exact HNP.out⟩, ⟨_, _, by rw [HL.out]; rfl, by rw [HL.out]; exact HOW.out⟩, HB.out⟩
          · have hjn : j < n := by omega
            obtain ⟨b, o, r, rfl, hbB, hr, hc⟩ := (H.out.below (HB.out.mono hBw)).int hjn
            have hr1 := HW.out.1 r (mem_of_at hr)
            have HR := hide hr
            have hfz := HOW.out.frozenAt j
            obtain ⟨old, hold⟩ : ∃ u, wr.cell? ⟨w.heap.size, j, none⟩ = some u := by
              rw [HOW.out.cellAt j (by omega)]
              exact ⟨_, List.getElem?_eq_getElem (by rw [List.length_map, half_len _ _ _ (by have := HL.out; omega)]; have := HL.out; omega)⟩
            have hne : ¬ b = w.heap.size := by omega
            have hq0 := Int.ediv_nonneg hm0 (show 0 ≤ r by omega)
            have hq1 := Int.ediv_le_self r hm0
            have hst := (HOW.out.stored j (.int .i64 (m % r))).1
            rw [← List.map_set, HM.out, half_step rs N j r hr, ← HM.out] at hst
            have HST := hide hst
            clear hr hst
            go_wp2
            go_roundw
            case rel => exact ⟨j, m / r, by omega, by rw [HM.out]; exact quo_step HR.out HW.out.1, hq0, by omega, rfl, rfl, HST.out, HB.out.setCell (Nat.le_refl _) _⟩
            case measure => simp [intOf]
  · rw [(wV_no hw).1, (wV_no hw).2] at C1
    have HN := hide (show ¬ (WOk rs ∧ 0 ≤ N ∧ N < prodL rs) from fun c => hw c.1)
    clear h hw hf hl
    go_enter Try.func14, Try.ntmps14
    go_wp2_with (go_at_call 9; refine C1.out.mono ?_; rintro e w' ⟨rfl, rfl⟩)
    go_ret2
    exact seq_no HN.out
set_option maxRecDepth 100000 in
set_option maxHeartbeats 400000 in
theorem rseq_any (A : Option Addr) (n c B : Nat) (rs : List Int) (N : Int) (w : World) (h : Sl w B A n (rs.map (Value.int .i64))) (hBw : B ≤ w.heap.size) (hf : Fits rs) (hn : n ≤ 35184372088832) :
    Calls Try.prog 15 #[.slice A n c, .int .i64 N] w (SeqEnd rs N w) := by
  have hl := h.len
  have C1 := hide (rweight_any A n c B rs w h hf (by omega))
  unfold WeightEnd at C1
  by_cases hw : WOk rs
  · rw [(wV_yes hw).1, (wV_yes hw).2] at C1
    by_cases h0 : N < 0
    · have HN := hide (show ¬ (WOk rs ∧ 0 ≤ N ∧ N < prodL rs) from fun c => by omega)
      clear h hw hf hl
      go_enter Try.func15, Try.ntmps15
      go_wp2_with (go_at_call 10; refine C1.out.mono ?_; rintro e w' ⟨rfl, rfl⟩)
      go_ret2
      exact seq_no HN.out
    · by_cases h1 : prodL rs ≤ N
      · have HN := hide (show ¬ (WOk rs ∧ 0 ≤ N ∧ N < prodL rs) from fun c => by omega)
        clear h hw hf hl
        generalize hP : prodL rs = P at *
        have HPE := hide hP
        clear hP
        go_enter Try.func15, Try.ntmps15
        go_wp2_with (go_at_call 10; refine C1.out.mono ?_; rintro e w' ⟨rfl, rfl⟩)
        go_ret2
        exact seq_no (by rw [HPE.out]; exact HN.out)
      · have HW := hide hw
        have hN1 : N < prodL rs := by omega
        have hN2 : N ≤ 4611686018427387904 := by have := hw.2; omega
        obtain ⟨i0, hi, hz0, hz1, hz2⟩ := info_parts info2
        have HL := hide hl
        have H := hide h
        have HNP := hide hN1
        clear hw hf hl h1 h hN1
        have h1 : ¬ prodL rs ≤ N := by have := HNP.out; omega
        generalize hP : prodL rs = P at *
        have HPE := hide hP
        clear hP
        go_enter Try.func15, Try.ntmps15
        go_wp2_with (first | (go_at_call 10; refine C1.out.mono ?_; rintro e w' ⟨rfl, rfl⟩) | (at_make; refine wpList_make_full _ rfl (.tmp 27) (.tmp 27) 22 rfl w.heap.size 2 i0 (.int .i64 0) 1 Try.underlying22 hi hz0 hz1 .i64 .i64 n n n rfl rfl rfl rfl (by rw [hz2]; omega) (by simp only [maxLen]; omega) (Nat.le_refl _) ?_; intro w1 hown1 hg1))
        have hown2 : w1.ownsRow w.heap.size 2 1 (.slice (some ⟨w.heap.size, 0, none⟩) n n) n ((half rs N n).map (Value.int .i64)) := by
          have e : (madeCells (Value.int IntKind.i64 0).cells (n * 1)).toList = (half rs N n).map (Value.int .i64) := by
            rw [← HL.out, half_all, List.map_replicate, Nat.mul_one]
            exact toList_madeCells_one _ _
          rw [e] at hown1; exact hown1
        have hb1 : Below w.heap.size w w1 := (Below.refl _ _).grown hg1 (Nat.le_refl _) (by intro q hq; cases hq)
        have HO := hide hown2
        have HB1 := hide hb1
        clear hown1 hown2 hg1 hb1
        go_loopw [1, 9] (fun x i wr => ∃ (j : Nat) (m : Int), j ≤ n ∧ m = N / prodL (rs.drop j) ∧ 0 ≤ m ∧ m ≤ 4611686018427387904 ∧ i = .int .i64 ((j : Int) - 1) ∧ x = .int .i64 m ∧ wr.ownsRow w.heap.size 2 1 (.slice (some ⟨w.heap.size, 0, none⟩) n n) n ((half rs N j).map (Value.int .i64)) ∧ Below w.heap.size w wr) (fun _ i _ => (intOf i + 1).toNat)
        case atStart => exact ⟨n, N, Nat.le_refl _, by rw [List.drop_of_length_le (by have := HL.out; omega)]; simp [prodL], by omega, hN2, rfl, rfl, HO.out, HB1.out⟩
        case round =>
          obtain ⟨j, m, hj, hm, hm0, hm1, rfl, rfl, hown, hbl⟩ := hrel
          have HM := hide hm
          have HB := hide hbl
          have HOW := hide hown
          clear hm hbl hown
          rcases j with _ | j
          · go_wp2
            refine bodyPost_ret (results_tmp2 rfl _ _ _) rfl ?_
            refine .inl ⟨⟨HW.out, by omega, by rw [HPE.out]; exact HNP.out⟩, ⟨_, _, by rw [HL.out]; rfl, by rw [HL.out]; exact HOW.out⟩, HB.out⟩
          · have hjn : j < n := by omega
            obtain ⟨b, o, r, rfl, hbB, hr, hc⟩ := (H.out.below (HB.out.mono hBw)).int hjn
            have hr1 := HW.out.1 r (mem_of_at hr)
            have HR := hide hr
            have hfz := HOW.out.frozenAt j
            obtain ⟨old, hold⟩ : ∃ u, wr.cell? ⟨w.heap.size, j, none⟩ = some u := by
              rw [HOW.out.cellAt j (by omega)]
              exact ⟨_, List.getElem?_eq_getElem (by rw [List.length_map, half_len _ _ _ (by have := HL.out; omega)]; have := HL.out; omega)⟩
            have hne : ¬ b = w.heap.size := by omega
            have hq0 := Int.ediv_nonneg hm0 (show 0 ≤ r by omega)
            have hq1 := Int.ediv_le_self r hm0
            have hst := (HOW.out.stored j (.int .i64 (m % r))).1
            rw [← List.map_set, HM.out, half_step rs N j r hr, ← HM.out] at hst
            have HST := hide hst
            clear hr hst
            go_wp2
            go_region
            all_goals
              go_wp2
              go_roundw
              case rel => exact ⟨j, m / r, by omega, by rw [HM.out]; exact quo_step HR.out HW.out.1, hq0, by omega, rfl, rfl, HST.out.drew, (HB.out.setCell (Nat.le_refl _) _).drew⟩
              case measure => simp [intOf]
  · rw [(wV_no hw).1, (wV_no hw).2] at C1
    have HN := hide (show ¬ (WOk rs ∧ 0 ≤ N ∧ N < prodL rs) from fun c => hw c.1)
    clear h hw hf hl
    go_enter Try.func15, Try.ntmps15
    go_wp2_with (go_at_call 10; refine C1.out.mono ?_; rintro e w' ⟨rfl, rfl⟩)
    go_ret2
    exact seq_no HN.out
end Go.Proofs.Ytphkofgbpfcoiaa
