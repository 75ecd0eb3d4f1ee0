/- The walks of the laws on sequences and their numbers: they return true. -/
import Derived.Test.YtphkofgbpfcoiaaCSeq
import Derived.Test.YtphkofgbpfcoiaaLWeight
namespace Go.Proofs.Ytphkofgbpfcoiaa
open Go.RowKit Go.ChangeShapes Go.WideShapes
set_option linter.unusedVariables false
set_option maxRecDepth 100000 in
theorem drawSequences_walk (A : Option Addr) (len0 cap0 : Nat) (z : List Int) (N : Int) (w : World) (w0 : IsRow .i64 w A len0 cap0 z) (w1 : (Lit.int .i64 N).wf = true) :
    Calls Try.prog 5 #[.slice A len0 cap0, .int .i64 N] w fun e w' => e = .returned (.bool true) ∧ Below w.heap.size w w' := by
  obtain ⟨hsl, hf, hlc, hzl, hcm⟩ := row_fits w0
  have C4 := hide awake_any
  clear w0 w1 hcm hlc
  generalize z.take len0 = l at *
  by_cases h200 : 200 < len0
  · clear hsl hf hzl
    go_enter Try.func5, Try.ntmps5
    go_wp2_with (go_at_call 11; refine (C4.out _).mono ?_; rintro e w' ⟨rfl, hb1⟩)
    go_ret
    exact ⟨rfl, hb1⟩
  · have C1 := hide (fun w1 (hb : Below w.heap.size w w1) => seq_any A len0 cap0 w.heap.size l N w1 (hsl.below hb) hb.size hf (by omega))
    have C2 := hide (fun w1 (hb : Below w.heap.size w w1) => rseq_any A len0 cap0 w.heap.size l N w1 (hsl.below hb) hb.size hf (by omega))
    by_cases hok : WOk l ∧ 0 ≤ N ∧ N < prodL l
    · have HL := hide hzl
      have HOK := hide hok
      clear hsl hf hzl hok
      go_enter Try.func5, Try.ntmps5
      go_wp2_with fail
      refine (C1.out w (Below.refl _ _)).mono ?_
      rintro e w1 (⟨_, ⟨A1, c1, rfl, hown1⟩, hb1⟩ | ⟨hno, _⟩)
      · have HO1 := hide hown1
        have HB1 := hide hb1
        clear hown1 hb1
        go_wp2_with fail
        refine (C2.out w1 HB1.out).mono ?_
        rintro e w2 (⟨_, ⟨A2, c2, rfl, hown2⟩, hb2⟩ | ⟨hno, _⟩)
        · have HO2 := hide hown2
          have HB2 := hide hb2
          have c3 := same_any A1 A2 _ c1 _ _ c2 _ (seqL l N) (seqL l N) w2 ((Sl.of_own HO1.out).below HB2.out) (by have := HL.out; omega) (Sl.of_own HO2.out) (by have := HL.out; omega)
          have C3 := hide c3
          clear hown2 hb2 c3
          go_wp2_with fail
          refine C3.out.mono ?_
          rintro e w3 ⟨rfl, n3, rfl⟩
          have hd : decide (seqL l N = seqL l N) = true := by simp
          rw [hd]
          go_wp2_with (go_at_call 11; refine (C4.out _).mono ?_; rintro e w' ⟨rfl, hb3⟩)
          go_ret
          have hb4 := (HB1.out).trans (HB2.out.mono HB1.out.size)
          exact ⟨rfl, (below_drewN hb4 _).trans (hb3.mono hb4.size)⟩
        · exact absurd HOK.out hno
      · exact absurd HOK.out hno
    · have HOK := hide hok
      clear hsl hf hzl hok
      have C3 := hide (fun w1 => same_any none none 0 0 0 0 0 0 [] [] w1 Sl.none_ (by omega) Sl.none_ (by omega))
      go_enter Try.func5, Try.ntmps5
      go_wp2_with fail
      refine (C1.out w (Below.refl _ _)).mono ?_
      rintro e w1 (⟨hyes, _⟩ | ⟨_, rfl, rfl⟩)
      · exact absurd hyes HOK.out
      · go_wp2_with fail
        refine (C2.out w (Below.refl _ _)).mono ?_
        rintro e w1 (⟨hyes, _⟩ | ⟨_, rfl, rfl⟩)
        · exact absurd hyes HOK.out
        · go_wp2_with fail
          refine (C3.out _).mono ?_
          rintro e w3 ⟨rfl, n3, rfl⟩
          have hd : decide (([] : List Int) = []) = true := by simp
          rw [hd]
          go_wp2_with (go_at_call 11; refine (C4.out _).mono ?_; rintro e w' ⟨rfl, hb3⟩)
          go_ret
          exact ⟨rfl, (below_drewN (Below.refl _ _) _).trans hb3⟩
set_option maxRecDepth 100000 in
theorem drawNumbers_walk (A : Option Addr) (len0 cap0 : Nat) (z : List Int) (A1 : Option Addr) (len1 cap1 : Nat) (z1 : List Int) (w : World) (w0 : IsRow .i64 w A len0 cap0 z) (w1 : IsRow .i64 w A1 len1 cap1 z1) :
    Calls Try.prog 6 #[.slice A len0 cap0, .slice A1 len1 cap1] w fun e w' => e = .returned (.bool true) ∧ Below w.heap.size w w' := by
  obtain ⟨hsl, hf, hlc, hzl, hcm⟩ := row_fits w0
  obtain ⟨ksl, kf, klc, kzl, kcm⟩ := row_fits w1
  have C4 := hide awake_any
  clear w0 w1 hcm hlc kcm klc
  generalize z.take len0 = l at *
  generalize z1.take len1 = d at *
  by_cases h200 : 200 < len0
  · clear hsl hf hzl ksl kf kzl
    go_enter Try.func6, Try.ntmps6
    go_wp2_with (go_at_call 11; refine (C4.out _).mono ?_; rintro e w' ⟨rfl, hb1⟩)
    go_ret
    exact ⟨rfl, hb1⟩
  · by_cases k200 : 200 < len1
    · clear hsl hf hzl ksl kf kzl
      go_enter Try.func6, Try.ntmps6
      go_wp2_with (go_at_call 11; refine (C4.out _).mono ?_; rintro e w' ⟨rfl, hb1⟩)
      go_ret
      exact ⟨rfl, hb1⟩
    · have C1 := hide (number_any A A1 len0 cap0 w.heap.size len1 cap1 w.heap.size l d w hsl hf (by omega) ksl (by omega))
      have C2 := hide (rnumber_any A A1 len0 cap0 w.heap.size len1 cap1 w.heap.size l d w hsl hf (by omega) ksl (by omega))
      have C3 := hide (fun N => seq_any A len0 cap0 w.heap.size l N w hsl (Nat.le_refl _) hf (by omega))
      have KS := hide ksl
      by_cases hok : WOk l ∧ inL l d
      · have HL := hide hzl
        have HOK := hide hok
        clear hsl hf hzl hok ksl kf kzl
        go_enter Try.func6, Try.ntmps6
        go_wp2_with fail
        refine C1.out.mono ?_
        rintro e w1 ⟨⟨_, rfl⟩ | ⟨hno, _⟩, rfl⟩
        · go_wp2_with fail
          refine C2.out.mono ?_
          rintro e w1 ⟨⟨_, rfl⟩ | ⟨hno, _⟩, rfl⟩
          · go_wp2_with fail
            refine (C3.out _).mono ?_
            rintro e w2 (⟨_, ⟨A2, c2, rfl, hown2⟩, hb2⟩ | ⟨hno, _⟩)
            · rw [seqL_numL HOK.out.2] at hown2
              have HO2 := hide hown2
              have HB2 := hide hb2
              have c3 := same_any A2 A1 _ c2 _ _ cap1 _ d d w2 (Sl.of_own HO2.out) (by have := HL.out; omega) (KS.out.below HB2.out) (by omega)
              have C5 := hide c3
              clear hown2 hb2 c3
              go_wp2_with fail
              refine C5.out.mono ?_
              rintro e w3 ⟨rfl, n3, rfl⟩
              have hd : decide (d = d) = true := by simp
              rw [hd]
              go_wp2_with (go_at_call 11; refine (C4.out _).mono ?_; rintro e w' ⟨rfl, hb3⟩)
              go_ret
              exact ⟨rfl, (below_drewN HB2.out _).trans (hb3.mono HB2.out.size)⟩
            · exact absurd ⟨HOK.out.1, numL_bd HOK.out.2⟩ hno
          · exact absurd HOK.out hno
        · exact absurd HOK.out hno
      · have HOK := hide hok
        have HL := hide hzl
        clear hsl hf hzl hok ksl kf kzl
        go_enter Try.func6, Try.ntmps6
        go_wp2_with fail
        refine C1.out.mono ?_
        rintro e w1 ⟨⟨hyes, _⟩ | ⟨_, rfl⟩, rfl⟩
        · exact absurd hyes HOK.out
        · go_wp2_with fail
          refine C2.out.mono ?_
          rintro e w1 ⟨⟨hyes, _⟩ | ⟨_, rfl⟩, rfl⟩
          · exact absurd hyes HOK.out
          · go_wp2_with fail
            refine (C3.out _).mono ?_
            rintro e w2 (⟨_, ⟨A2, c2, rfl, hown2⟩, hb2⟩ | ⟨_, rfl, rfl⟩)
            · have HB2 := hide hb2
              clear hown2 hb2
              go_wp2_with (go_at_call 11; refine (C4.out _).mono ?_; rintro e w' ⟨rfl, hb3⟩)
              go_ret
              exact ⟨rfl, HB2.out.trans (hb3.mono HB2.out.size)⟩
            · go_wp2_with (go_at_call 11; refine (C4.out _).mono ?_; rintro e w' ⟨rfl, hb3⟩)
              go_ret
              exact ⟨rfl, hb3⟩
end Go.Proofs.Ytphkofgbpfcoiaa
