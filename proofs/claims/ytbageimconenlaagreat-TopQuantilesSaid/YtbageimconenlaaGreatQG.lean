/- Summaries: merged, kept; ranks and quantiles. -/
import Derived.Test.YtbageimconenlaaGreatQF
import Derived.Test.YtbageimconenlaaGreatNW
import Derived.Test.YtbageimconenlaaGreatES
namespace Go.Proofs.YtbageimconenlaaGreat
open Go.RowKit En
set_option linter.unusedVariables false
theorem ent184 : Enters Tryz.prog 184 := enters Tryz.func184 (by kernel_rfl) (by kernel_rfl)
theorem ent185 : Enters Tryz.prog 185 := enters Tryz.func185 (by kernel_rfl) (by kernel_rfl)
theorem ent186 : Enters Tryz.prog 186 := enters Tryz.func186 (by kernel_rfl) (by kernel_rfl)
theorem ent199 : Enters Tryz.prog 199 := enters Tryz.func199 (by kernel_rfl) (by kernel_rfl)
theorem ent200 : Enters Tryz.prog 200 := enters Tryz.func200 (by kernel_rfl) (by kernel_rfl)
theorem ent140 : Enters Tryz.prog 140 := enters Tryz.func140 (by kernel_rfl) (by kernel_rfl)
set_option maxRecDepth 100000 in
theorem qg_single (v : Int) (w : World) : Calls Tryz.prog 184 #[.int .i64 v] w (fun e w' => ∃ A' c', e = .returned (.agg #[.int .i64 1, .slice A' 1 c']) ∧ OwnK w' w.heap.size 239 3 (.slice A' 1 c') 1 (enL 0 [v]) ∧ Below w.heap.size w w') := by
  have H := fun_fin tblOK (I := 0) mixedP Tryz.func184 rfl [.int .i64 v] [] (fun _ => pl4 0 0 0 false) w 7 [(0, .int .i64 v)] rfl rfl (by kernel_rfl) [] rfl rfl rfl (fun n b hb => nomatch hb) (fun u st => ∃ q, u = .agg #[.int .i64 1, .slice (some ⟨q, 0, none⟩) 1 0] ∧ En.lk st.σ q = some (.vec 239 3 (enL 0 [v]))) (by
    repeat' (first | refine AR.auto rfl ?_ | refine AR.nil ?_ | refine KF.mk ?_ | refine KT.mk (by kernel_rfl) ?_ | refine SQ.normal ?_ | refine AC.seq ?_ | refine AC.regF ?_ | refine AC.regT ?_ | refine AC.condT rfl ?_ | refine AC.condF rfl ?_ | refine AC.block ?_ | refine BQ.normal ?_ | refine BQ.ret ?_ | refine BQ.here ?_ | refine BQ.there rfl ?_ | refine SQ.ret ?_ | refine SQ.exit ?_ | refine AC.ret ?_ | refine AC.exit ?_ | refine AC.skip ?_ | (refine AR.split rfl (fun h => ?_) (fun h => ?_) <;> rw [h]) | (refine AC.cond rfl (fun h => ?_) (fun h => ?_) <;> rw [h]) | refine FQ.ret rfl rfl ?_ | refine FQ.normal rfl rfl ?_)
    all_goals exact ⟨_, rfl, rfl⟩)
  refine H.mono fun e w' he => ?_
  obtain ⟨u, st, ρ, a, ⟨q, rfl, hq⟩, rfl, hs⟩ := he
  obtain ⟨A', c', h10, h11⟩ := vec_own (n := 1) (hs.bx _ _ hq).1 rfl (by decide) rfl
  have e9 : rV ρ (.agg #[.int .i64 1, .slice (some ⟨q, 0, none⟩) 1 0]) = .agg #[.int .i64 1, rC ρ (.slice (some ⟨q, 0, none⟩) 1 0)] := rfl
  exact ⟨A', c', by rw [e9, h10], h11, hs.bl⟩
set_option maxRecDepth 100000 in
set_option maxHeartbeats 4000000 in
theorem qg_merge (x y : List Int) (n m : Nat) (hx : x.length = n) (hy : y.length = m) (hn : n ≤ 900) (hm : m ≤ 900) (hn0 : 0 < n) (hm0 : 0 < m) (hsx : Asc x) (hsy : Asc y) (w : World) (A : Option Addr) (c : Nat) (B : Option Addr) (d : Nat) (h : SL w A n c 3 (enL 0 x)) (k : SL w B m d 3 (enL 0 y)) :
    Calls Tryz.prog 185 #[.agg #[.int .i64 ((n : Nat)), .slice A n c], .agg #[.int .i64 ((m : Nat)), .slice B m d]] w (fun e w' => ∃ A' c', e = .returned (.tuple #[.agg #[.int .i64 ((n + m : Nat)), .slice A' (n + m) c'], .int .i64 0]) ∧ OwnK w' w.heap.size 239 3 (.slice A' (n + m) c') (n + m) (enL 0 (mg x y)) ∧ Below w.heap.size w w') := by
  have H := fun_fin tblOK (I := 2) mixedP Tryz.func185 rfl [.agg #[.int .i64 ((n : Nat)), .slice (some ⟨0, 0, none⟩) n 0], .agg #[.int .i64 ((m : Nat)), .slice (some ⟨1, 0, none⟩) m 0]] [(0, .view 3 (enL 0 x)), (1, .view 3 (enL 0 y))] (fun i => if i = 0 then plOf A c else plOf B d) w 115 [(0, .agg #[.int .i64 ((n : Nat)), .slice (some ⟨0, 0, none⟩) n 0]), (1, .agg #[.int .i64 ((m : Nat)), .slice (some ⟨1, 0, none⟩) m 0])] rfl rfl (by kernel_rfl) [1, 0] rfl rfl rfl (fun q b hmb => by
    rw [En.lk_cons] at hmb
    split at hmb
    · rename_i e
      subst e
      cases hmb
      exact ⟨by omega, h.view (allFC_en _ _) (by decide) rfl, fun v hv => NBc.flat (allFC_spec (allFC_en _ _) v hv), fun hw => hw⟩
    · rw [En.lk_cons] at hmb
      split at hmb
      · rename_i e
        subst e
        cases hmb
        exact ⟨by omega, k.view (allFC_en _ _) (by decide) rfl, fun v hv => NBc.flat (allFC_spec (allFC_en _ _) v hv), fun hw => hw⟩
      · cases hmb) (fun u st => ∃ q, u = .tuple #[.agg #[.int .i64 ((n + m : Nat)), .slice (some ⟨q, 0, none⟩) (n + m) 0], .int .i64 0] ∧ En.lk st.σ q = some (.vec 239 3 (enL 0 (mg x y)))) (by
    have d1 : ((n : Int) == 0) = false := by rw [beq_eq_false_iff_ne]; omega
    have d2 : ((m : Int) == 0) = false := by rw [beq_eq_false_iff_ne]; omega
    have w1 : IntKind.i64.wrap (1099511627776 - (m : Int)) = 1099511627776 - (m : Int) := IntWalk.i64_in _ (by omega)
    have d3 : decide ((n : Int) > 1099511627776 - (m : Int)) = false := by simp only [decide_eq_false_iff_not]; omega
    have w2 : IntKind.i64.wrap ((n : Int) + (m : Int)) = ((n + m : Nat) : Int) := by rw [IntWalk.i64_in _ (by omega)]; omega
    repeat' (first | rw [d1] | rw [d2] | rw [w1] | rw [d3] | rw [w2] | refine AR.auto rfl ?_ | refine AR.man (AOk.callS (fun s => [.agg #[.int .i64 ((n : Nat)), s]]) 0 n 3 (enL 0 x) (fun w A c h => qf_valid x n hx (by omega) hsx w A c h) ent213 rfl rfl rfl (fun _ => rfl) rfl (fun _ _ h => h) (by decide) (by rw [enL_len, hx]) (allFC_en x 0) rfl rfl) rfl rfl rfl ?_ | refine AR.man (AOk.callS (fun s => [.agg #[.int .i64 ((m : Nat)), s]]) 1 m 3 (enL 0 y) (fun w A c h => qf_valid y m hy (by omega) hsy w A c h) ent213 rfl rfl rfl (fun _ => rfl) rfl (fun _ _ h => h) (by decide) (by rw [enL_len, hy]) (allFC_en y 0) rfl rfl) rfl rfl rfl ?_ | refine AR.nil ?_ | refine KF.mk ?_ | refine KT.mk (by kernel_rfl) ?_ | refine SQ.normal ?_ | refine AC.seq ?_ | refine AC.regF ?_ | refine AC.regT ?_ | refine AC.condT rfl ?_ | refine AC.condF rfl ?_ | refine AC.block ?_ | refine BQ.normal ?_ | refine BQ.ret ?_ | refine BQ.here ?_ | refine BQ.there rfl ?_ | refine SQ.ret ?_ | refine SQ.exit ?_ | refine AC.ret ?_ | refine AC.exit ?_ | refine AC.skip ?_ | (refine AR.split rfl (fun h => ?_) (fun h => ?_) <;> rw [h]) | (refine AC.cond rfl (fun h => ?_) (fun h => ?_) <;> rw [h]) | refine FQ.ret rfl rfl ?_ | refine FQ.normal rfl rfl ?_)
    refine AC.loop (fun p st => ∃ (i j : Nat) (out : List Int), p = n + m - (i + j) ∧ i ≤ n ∧ j ≤ m ∧ out.length = i + j ∧ out ++ mg (x.drop i) (y.drop j) = mg x y ∧ st = ⟨[(12, .int .i64 (j : Nat)), (11, .int .i64 (i : Nat)), (10, .slice (some ⟨1, 0, none⟩) m 0), (9, .slice (some ⟨0, 0, none⟩) n 0), (8, .pointer (some ⟨5, 0, none⟩)), (5, .int .i64 0), (4, .pointer (some ⟨4, 0, none⟩)), (3, .pointer (some ⟨3, 0, none⟩)), (2, .pointer (some ⟨2, 0, none⟩))], [(5, .row 271 [.int .i64 ((n + m : Nat)), .slice (some ⟨6, 0, none⟩) (i + j) 0]), (6, .vec 239 3 (enL 0 out)), (4, .row 271 [.int .i64 0, .slice none 0 0]), (3, .row 271 [.int .i64 (m : Nat), .slice (some ⟨1, 0, none⟩) m 0]), (2, .row 271 [.int .i64 (n : Nat), .slice (some ⟨0, 0, none⟩) n 0]), (0, .view 3 (enL 0 x)), (1, .view 3 (enL 0 y))], [6, 5, 4, 3, 2, 1, 0], 115⟩) (n + m) _ ?_ ⟨0, 0, [], rfl, Nat.zero_le _, Nat.zero_le _, rfl, rfl, rfl⟩ ?_
    · refine Ren.trans (Ren.rnil 5 271 [.int .i64 ((n + m : Nat)), .slice none 0 0] [.int .i64 ((n + m : Nat)), .slice (some ⟨6, 0, none⟩) 0 0] 239 3 6 1 rfl rfl rfl rfl) ?_
      exact Ren.mv (tabF []) rfl (fun k hk => by match k, hk with | 0, _ => exact ⟨rfl, rfl⟩ | 1, _ => exact ⟨rfl, rfl⟩) ⟨⟨rfl, rfl⟩, ⟨rfl, rfl⟩, ⟨rfl, rfl⟩, ⟨rfl, rfl⟩, ⟨rfl, rfl⟩, ⟨rfl, rfl⟩, ⟨rfl, rfl⟩, ⟨rfl, rfl⟩, ⟨rfl, rfl⟩, trivial⟩ ⟨⟨rfl, rfl, rfl⟩, ⟨by rw [mv_enr]; rfl, rfl, allNC_en _ _ _⟩, ⟨rfl, rfl, rfl⟩, ⟨rfl, rfl, rfl⟩, ⟨rfl, rfl, rfl⟩, ⟨by rw [mv_env]; rfl, rfl, allNC_en _ _ _⟩, ⟨by rw [mv_env]; rfl, rfl, allNC_en _ _ _⟩, trivial⟩ rfl
    intro p st hi
    obtain ⟨i, j, out, rfl, hin, hjm, hol, hout, rfl⟩ := hi
    by_cases hend : i + j < n + m
    · -- which one comes next
      have w3 : IntKind.i64.wrap ((i : Int) + 1) = ((i + 1 : Nat) : Int) := by rw [IntWalk.i64_in _ (by omega)]; rfl
      have w4 : IntKind.i64.wrap ((j : Int) + 1) = ((j + 1 : Nat) : Int) := by rw [IntWalk.i64_in _ (by omega)]; rfl
      by_cases hj : j = m
      · have hi' : i < n := by omega
        have g1 : decide ((i : Int) < (n : Int)) = true := by simp only [decide_eq_true_eq]; omega
        have g2 : ((j : Int) == (m : Int)) = true := by rw [beq_iff_eq]; omega
        obtain ⟨a, ha⟩ : ∃ a, x[i]? = some a := ⟨x[i]'(by omega), List.getElem?_eq_getElem (by omega)⟩
        have eD : x.drop i = a :: x.drop (i + 1) := by rw [List.drop_eq_getElem_cons (by omega), (List.getElem?_eq_some_iff.1 ha).2]
        have eY : y.drop j = [] := List.drop_of_length_le (by omega)
        rw [eD, eY, mg_nil'] at hout
        have eO : (out ++ [a]) ++ mg (x.drop (i + 1)) (y.drop j) = mg x y := by rw [eY, mg_nil', ← hout]; simp
        have e1 : i + 1 + j = i + j + 1 := by omega
        repeat' (first | rw [g1] | rw [g2] | rw [w3] | rw [e1] | refine AR.auto rfl ?_ | refine AR.man (oke_idx (A0 := 0) (i := i) rfl rfl rfl rfl (nonE_env 3 0 (l := x) (by omega)) (by omega)) rfl rfl rfl ?_ | refine AR.man (oke_ld (A0 := 0) (v := a) (j := i) rfl rfl rfl (fun jj u hu => by rw [show 0 + i * 3 + jj = i * 3 + jj from (by omega), show (Box.view 3 (enL 0 x)).cells = enL 0 x from rfl, enL_at x 0 i jj a ha (by have := (List.getElem?_eq_some_iff.1 hu).1; simpa [enC] using this), Nat.zero_add]; exact hu)) rfl rfl rfl ?_ | refine AR.man (AOk.callS (fun s => [.agg #[.int .i64 a, .int .i64 ((i + 1 : Nat)), .int .i64 ((i + 1 : Nat))], s, .int .i64 ((j : Nat)), .int .i64 ((m : Nat))]) 1 m 3 (enL 0 y) (fun w A c h => qf_between y m a (i + 1) j hy (by omega) (by omega) (by omega) w A c h) ent217 rfl rfl rfl (fun _ => rfl) rfl (fun _ _ h => h) (by decide) (by rw [enL_len, hy]) (allFC_en y 0) rfl rfl) rfl rfl rfl ?_ | refine AR.man (oke_app 41 (k := 0) (nd := i + j) (l := out) (v := a) hol (by omega) rfl rfl rfl rfl rfl rfl rfl (by rw [show 0 + (i + j) = i + j from Nat.zero_add _]; rfl) rfl) rfl rfl rfl ?_ | refine AR.nil ?_ | refine KF.mk ?_ | refine KT.mk (by kernel_rfl) ?_ | refine SQ.normal ?_ | refine AC.seq ?_ | refine AC.regF ?_ | refine AC.regT ?_ | refine AC.condT rfl ?_ | refine AC.condF rfl ?_ | refine AC.block ?_ | refine BQ.normal ?_ | refine BQ.ret ?_ | refine BQ.here ?_ | refine BQ.there rfl ?_ | refine SQ.ret ?_ | refine SQ.exit ?_ | refine AC.ret ?_ | refine AC.exit ?_ | refine AC.skip ?_ | (refine AR.split rfl (fun h => ?_) (fun h => ?_) <;> rw [h]) | (refine AC.cond rfl (fun h => ?_) (fun h => ?_) <;> rw [h]) | refine FQ.ret rfl rfl ?_ | refine FQ.normal rfl rfl ?_)
        refine ⟨n + m - (i + 1 + j), _, by omega, ?_, i + 1, j, out ++ [a], rfl, by omega, hjm, by simp [hol]; omega, eO, rfl⟩
        rw [e1]
        exact Ren.mv (tabF [(6, 41)]) rfl (fun k hk => by match k, hk with | 0, _ => exact ⟨rfl, rfl⟩ | 1, _ => exact ⟨rfl, rfl⟩) ⟨⟨rfl, rfl⟩, ⟨rfl, rfl⟩, ⟨rfl, rfl⟩, ⟨rfl, rfl⟩, ⟨rfl, rfl⟩, ⟨rfl, rfl⟩, ⟨rfl, rfl⟩, ⟨rfl, rfl⟩, ⟨rfl, rfl⟩, trivial⟩ ⟨⟨rfl, rfl, rfl⟩, ⟨by rw [mv_enr]; rfl, rfl, allNC_en _ _ _⟩, ⟨rfl, rfl, rfl⟩, ⟨rfl, rfl, rfl⟩, ⟨rfl, rfl, rfl⟩, ⟨by rw [mv_env]; rfl, rfl, allNC_en _ _ _⟩, ⟨by rw [mv_env]; rfl, rfl, allNC_en _ _ _⟩, trivial⟩ rfl
      · have hj' : j < m := by omega
        have g2 : ((j : Int) == (m : Int)) = false := by rw [beq_eq_false_iff_ne]; omega
        have g3 : decide ((j : Int) < (m : Int)) = true := by simp only [decide_eq_true_eq]; omega
        obtain ⟨b, hb⟩ : ∃ b, y[j]? = some b := ⟨y[j]'(by omega), List.getElem?_eq_getElem (by omega)⟩
        have eY : y.drop j = b :: y.drop (j + 1) := by rw [List.drop_eq_getElem_cons (by omega), (List.getElem?_eq_some_iff.1 hb).2]
        have e2 : i + (j + 1) = i + j + 1 := by omega
        have e3 : j + 1 + i = i + j + 1 := by omega
        by_cases hi' : i < n
        · have g1 : decide ((i : Int) < (n : Int)) = true := by simp only [decide_eq_true_eq]; omega
          obtain ⟨a, ha⟩ : ∃ a, x[i]? = some a := ⟨x[i]'(by omega), List.getElem?_eq_getElem (by omega)⟩
          have eD : x.drop i = a :: x.drop (i + 1) := by rw [List.drop_eq_getElem_cons (by omega), (List.getElem?_eq_some_iff.1 ha).2]
          by_cases hab : a ≤ b
          · have g4 : decide (a ≤ b) = true := by simp only [decide_eq_true_eq]; exact hab
            rw [eD, eY, mg_cons, if_pos hab] at hout
            have eO : (out ++ [a]) ++ mg (x.drop (i + 1)) (y.drop j) = mg x y := by rw [eY, ← hout]; simp
            have e1 : i + 1 + j = i + j + 1 := by omega
            repeat' (first | rw [g1] | rw [g2] | rw [g4] | rw [w3] | rw [e1] | refine AR.auto rfl ?_ | refine AR.man (oke_idx (A0 := 0) (i := i) rfl rfl rfl rfl (nonE_env 3 0 (l := x) (by omega)) (by omega)) rfl rfl rfl ?_ | refine AR.man (ok_ld (A0 := 0) (u := a) rfl rfl rfl (by show (enL 0 x)[_]? = _; rw [show 0 + i * 3 + 0 = i * 3 + 0 from (by omega), enL_at x 0 i 0 a ha (by decide), Nat.zero_add]; rfl)) rfl rfl rfl ?_ | refine AR.man (oke_idx (A0 := 1) (i := j) rfl rfl rfl rfl (nonE_env 3 0 (l := y) (by omega)) (by omega)) rfl rfl rfl ?_ | refine AR.man (ok_ld (A0 := 1) (u := b) rfl rfl rfl (by show (enL 0 y)[_]? = _; rw [show 0 + j * 3 + 0 = j * 3 + 0 from (by omega), enL_at y 0 j 0 b hb (by decide), Nat.zero_add]; rfl)) rfl rfl rfl ?_ | refine AR.man (oke_ld (A0 := 0) (v := a) (j := i) rfl rfl rfl (fun jj u hu => by rw [show 0 + i * 3 + jj = i * 3 + jj from (by omega), show (Box.view 3 (enL 0 x)).cells = enL 0 x from rfl, enL_at x 0 i jj a ha (by have := (List.getElem?_eq_some_iff.1 hu).1; simpa [enC] using this), Nat.zero_add]; exact hu)) rfl rfl rfl ?_ | refine AR.man (AOk.callS (fun s => [.agg #[.int .i64 a, .int .i64 ((i + 1 : Nat)), .int .i64 ((i + 1 : Nat))], s, .int .i64 ((j : Nat)), .int .i64 ((m : Nat))]) 1 m 3 (enL 0 y) (fun w A c h => qf_between y m a (i + 1) j hy (by omega) (by omega) (by omega) w A c h) ent217 rfl rfl rfl (fun _ => rfl) rfl (fun _ _ h => h) (by decide) (by rw [enL_len, hy]) (allFC_en y 0) rfl rfl) rfl rfl rfl ?_ | refine AR.man (oke_app 41 (k := 0) (nd := i + j) (l := out) (v := a) hol (by omega) rfl rfl rfl rfl rfl rfl rfl (by rw [show 0 + (i + j) = i + j from Nat.zero_add _]; rfl) rfl) rfl rfl rfl ?_ | refine AR.nil ?_ | refine KF.mk ?_ | refine KT.mk (by kernel_rfl) ?_ | refine SQ.normal ?_ | refine AC.seq ?_ | refine AC.regF ?_ | refine AC.regT ?_ | refine AC.condT rfl ?_ | refine AC.condF rfl ?_ | refine AC.block ?_ | refine BQ.normal ?_ | refine BQ.ret ?_ | refine BQ.here ?_ | refine BQ.there rfl ?_ | refine SQ.ret ?_ | refine SQ.exit ?_ | refine AC.ret ?_ | refine AC.exit ?_ | refine AC.skip ?_ | (refine AR.split rfl (fun h => ?_) (fun h => ?_) <;> rw [h]) | (refine AC.cond rfl (fun h => ?_) (fun h => ?_) <;> rw [h]) | refine FQ.ret rfl rfl ?_ | refine FQ.normal rfl rfl ?_)
            refine ⟨n + m - (i + 1 + j), _, by omega, ?_, i + 1, j, out ++ [a], rfl, by omega, hjm, by simp [hol]; omega, eO, rfl⟩
            rw [e1]
            exact Ren.mv (tabF [(6, 41)]) rfl (fun k hk => by match k, hk with | 0, _ => exact ⟨rfl, rfl⟩ | 1, _ => exact ⟨rfl, rfl⟩) ⟨⟨rfl, rfl⟩, ⟨rfl, rfl⟩, ⟨rfl, rfl⟩, ⟨rfl, rfl⟩, ⟨rfl, rfl⟩, ⟨rfl, rfl⟩, ⟨rfl, rfl⟩, ⟨rfl, rfl⟩, ⟨rfl, rfl⟩, trivial⟩ ⟨⟨rfl, rfl, rfl⟩, ⟨by rw [mv_enr]; rfl, rfl, allNC_en _ _ _⟩, ⟨rfl, rfl, rfl⟩, ⟨rfl, rfl, rfl⟩, ⟨rfl, rfl, rfl⟩, ⟨by rw [mv_env]; rfl, rfl, allNC_en _ _ _⟩, ⟨by rw [mv_env]; rfl, rfl, allNC_en _ _ _⟩, trivial⟩ rfl
          · have g4 : decide (a ≤ b) = false := by simp only [decide_eq_false_iff_not]; exact hab
            rw [eD, eY, mg_cons, if_neg hab] at hout
            have eO : (out ++ [b]) ++ mg (x.drop i) (y.drop (j + 1)) = mg x y := by rw [eD, ← hout]; simp
            repeat' (first | rw [g1] | rw [g2] | rw [g4] | rw [w4] | rw [e3] | refine AR.auto rfl ?_ | refine AR.man (oke_idx (A0 := 0) (i := i) rfl rfl rfl rfl (nonE_env 3 0 (l := x) (by omega)) (by omega)) rfl rfl rfl ?_ | refine AR.man (ok_ld (A0 := 0) (u := a) rfl rfl rfl (by show (enL 0 x)[_]? = _; rw [show 0 + i * 3 + 0 = i * 3 + 0 from (by omega), enL_at x 0 i 0 a ha (by decide), Nat.zero_add]; rfl)) rfl rfl rfl ?_ | refine AR.man (oke_idx (A0 := 1) (i := j) rfl rfl rfl rfl (nonE_env 3 0 (l := y) (by omega)) (by omega)) rfl rfl rfl ?_ | refine AR.man (ok_ld (A0 := 1) (u := b) rfl rfl rfl (by show (enL 0 y)[_]? = _; rw [show 0 + j * 3 + 0 = j * 3 + 0 from (by omega), enL_at y 0 j 0 b hb (by decide), Nat.zero_add]; rfl)) rfl rfl rfl ?_ | refine AR.man (oke_ld (A0 := 1) (v := b) (j := j) rfl rfl rfl (fun jj u hu => by rw [show 0 + j * 3 + jj = j * 3 + jj from (by omega), show (Box.view 3 (enL 0 y)).cells = enL 0 y from rfl, enL_at y 0 j jj b hb (by have := (List.getElem?_eq_some_iff.1 hu).1; simpa [enC] using this), Nat.zero_add]; exact hu)) rfl rfl rfl ?_ | refine AR.man (AOk.callS (fun s => [.agg #[.int .i64 b, .int .i64 ((j + 1 : Nat)), .int .i64 ((j + 1 : Nat))], s, .int .i64 ((i : Nat)), .int .i64 ((n : Nat))]) 0 n 3 (enL 0 x) (fun w A c h => qf_between x n b (j + 1) i hx (by omega) (by omega) (by omega) w A c h) ent217 rfl rfl rfl (fun _ => rfl) rfl (fun _ _ h => h) (by decide) (by rw [enL_len, hx]) (allFC_en x 0) rfl rfl) rfl rfl rfl ?_ | refine AR.man (oke_app 41 (k := 0) (nd := i + j) (l := out) (v := b) hol (by omega) rfl rfl rfl rfl rfl rfl rfl (by rw [show 0 + (i + j) = i + j from Nat.zero_add _]; rfl) rfl) rfl rfl rfl ?_ | refine AR.nil ?_ | refine KF.mk ?_ | refine KT.mk (by kernel_rfl) ?_ | refine SQ.normal ?_ | refine AC.seq ?_ | refine AC.regF ?_ | refine AC.regT ?_ | refine AC.condT rfl ?_ | refine AC.condF rfl ?_ | refine AC.block ?_ | refine BQ.normal ?_ | refine BQ.ret ?_ | refine BQ.here ?_ | refine BQ.there rfl ?_ | refine SQ.ret ?_ | refine SQ.exit ?_ | refine AC.ret ?_ | refine AC.exit ?_ | refine AC.skip ?_ | (refine AR.split rfl (fun h => ?_) (fun h => ?_) <;> rw [h]) | (refine AC.cond rfl (fun h => ?_) (fun h => ?_) <;> rw [h]) | refine FQ.ret rfl rfl ?_ | refine FQ.normal rfl rfl ?_)
            refine ⟨n + m - (i + (j + 1)), _, by omega, ?_, i, j + 1, out ++ [b], rfl, hin, by omega, by simp [hol]; omega, eO, rfl⟩
            rw [e2]
            exact Ren.mv (tabF [(6, 41)]) rfl (fun k hk => by match k, hk with | 0, _ => exact ⟨rfl, rfl⟩ | 1, _ => exact ⟨rfl, rfl⟩) ⟨⟨rfl, rfl⟩, ⟨rfl, rfl⟩, ⟨rfl, rfl⟩, ⟨rfl, rfl⟩, ⟨rfl, rfl⟩, ⟨rfl, rfl⟩, ⟨rfl, rfl⟩, ⟨rfl, rfl⟩, ⟨rfl, rfl⟩, trivial⟩ ⟨⟨rfl, rfl, rfl⟩, ⟨by rw [mv_enr]; rfl, rfl, allNC_en _ _ _⟩, ⟨rfl, rfl, rfl⟩, ⟨rfl, rfl, rfl⟩, ⟨rfl, rfl, rfl⟩, ⟨by rw [mv_env]; rfl, rfl, allNC_en _ _ _⟩, ⟨by rw [mv_env]; rfl, rfl, allNC_en _ _ _⟩, trivial⟩ rfl
        · have g1 : decide ((i : Int) < (n : Int)) = false := by simp only [decide_eq_false_iff_not]; omega
          have eX : x.drop i = [] := List.drop_of_length_le (by omega)
          rw [eX, eY, mg_nil] at hout
          have eO : (out ++ [b]) ++ mg (x.drop i) (y.drop (j + 1)) = mg x y := by rw [eX, mg_nil, ← hout]; simp
          repeat' (first | rw [g1] | rw [g2] | rw [g3] | rw [w4] | rw [e3] | refine AR.auto rfl ?_ | refine AR.man (oke_ld (A0 := 1) (v := b) (j := j) rfl rfl rfl (fun jj u hu => by rw [show 0 + j * 3 + jj = j * 3 + jj from (by omega), show (Box.view 3 (enL 0 y)).cells = enL 0 y from rfl, enL_at y 0 j jj b hb (by have := (List.getElem?_eq_some_iff.1 hu).1; simpa [enC] using this), Nat.zero_add]; exact hu)) rfl rfl rfl ?_ | refine AR.man (oke_idx (A0 := 1) (i := j) rfl rfl rfl rfl (nonE_env 3 0 (l := y) (by omega)) (by omega)) rfl rfl rfl ?_ | refine AR.man (AOk.callS (fun s => [.agg #[.int .i64 b, .int .i64 ((j + 1 : Nat)), .int .i64 ((j + 1 : Nat))], s, .int .i64 ((i : Nat)), .int .i64 ((n : Nat))]) 0 n 3 (enL 0 x) (fun w A c h => qf_between x n b (j + 1) i hx (by omega) (by omega) (by omega) w A c h) ent217 rfl rfl rfl (fun _ => rfl) rfl (fun _ _ h => h) (by decide) (by rw [enL_len, hx]) (allFC_en x 0) rfl rfl) rfl rfl rfl ?_ | refine AR.man (oke_app 41 (k := 0) (nd := i + j) (l := out) (v := b) hol (by omega) rfl rfl rfl rfl rfl rfl rfl (by rw [show 0 + (i + j) = i + j from Nat.zero_add _]; rfl) rfl) rfl rfl rfl ?_ | refine AR.nil ?_ | refine KF.mk ?_ | refine KT.mk (by kernel_rfl) ?_ | refine SQ.normal ?_ | refine AC.seq ?_ | refine AC.regF ?_ | refine AC.regT ?_ | refine AC.condT rfl ?_ | refine AC.condF rfl ?_ | refine AC.block ?_ | refine BQ.normal ?_ | refine BQ.ret ?_ | refine BQ.here ?_ | refine BQ.there rfl ?_ | refine SQ.ret ?_ | refine SQ.exit ?_ | refine AC.ret ?_ | refine AC.exit ?_ | refine AC.skip ?_ | (refine AR.split rfl (fun h => ?_) (fun h => ?_) <;> rw [h]) | (refine AC.cond rfl (fun h => ?_) (fun h => ?_) <;> rw [h]) | refine FQ.ret rfl rfl ?_ | refine FQ.normal rfl rfl ?_)
          refine ⟨n + m - (i + (j + 1)), _, by omega, ?_, i, j + 1, out ++ [b], rfl, hin, by omega, by simp [hol]; omega, eO, rfl⟩
          rw [e2]
          exact Ren.mv (tabF [(6, 41)]) rfl (fun k hk => by match k, hk with | 0, _ => exact ⟨rfl, rfl⟩ | 1, _ => exact ⟨rfl, rfl⟩) ⟨⟨rfl, rfl⟩, ⟨rfl, rfl⟩, ⟨rfl, rfl⟩, ⟨rfl, rfl⟩, ⟨rfl, rfl⟩, ⟨rfl, rfl⟩, ⟨rfl, rfl⟩, ⟨rfl, rfl⟩, ⟨rfl, rfl⟩, trivial⟩ ⟨⟨rfl, rfl, rfl⟩, ⟨by rw [mv_enr]; rfl, rfl, allNC_en _ _ _⟩, ⟨rfl, rfl, rfl⟩, ⟨rfl, rfl, rfl⟩, ⟨rfl, rfl, rfl⟩, ⟨by rw [mv_env]; rfl, rfl, allNC_en _ _ _⟩, ⟨by rw [mv_env]; rfl, rfl, allNC_en _ _ _⟩, trivial⟩ rfl
    · obtain rfl : n = i := by omega
      obtain rfl : m = j := by omega
      have g1 : decide ((n : Int) < (n : Int)) = false := by simp
      have g3 : decide ((m : Int) < (m : Int)) = false := by simp
      rw [List.drop_of_length_le (by omega), List.drop_of_length_le (by omega), mg_nil, List.append_nil] at hout
      subst hout
      repeat' (first | rw [g1] | rw [g3] | refine AR.auto rfl ?_ | refine AR.nil ?_ | refine KF.mk ?_ | refine KT.mk (by kernel_rfl) ?_ | refine SQ.normal ?_ | refine AC.seq ?_ | refine AC.regF ?_ | refine AC.regT ?_ | refine AC.condT rfl ?_ | refine AC.condF rfl ?_ | refine AC.block ?_ | refine BQ.normal ?_ | refine BQ.ret ?_ | refine BQ.here ?_ | refine BQ.there rfl ?_ | refine SQ.ret ?_ | refine SQ.exit ?_ | refine AC.ret ?_ | refine AC.exit ?_ | refine AC.skip ?_ | (refine AR.split rfl (fun h => ?_) (fun h => ?_) <;> rw [h]) | (refine AC.cond rfl (fun h => ?_) (fun h => ?_) <;> rw [h]) | refine FQ.ret rfl rfl ?_ | refine FQ.normal rfl rfl ?_)
      all_goals exact ⟨6, rfl, rfl⟩)
  have hp0 : rV (fun i => if i = 0 then plOf A c else plOf B d) (.agg #[.int .i64 ((n : Nat)), .slice (some ⟨0, 0, none⟩) n 0]) = .agg #[.int .i64 ((n : Nat)), .slice A n c] := by
    have := plOf_slice (ρ := fun i => if i = 0 then plOf A c else plOf B d) (A := A) (c := c) (i := 0) (n := n) rfl
    show Value.agg #[.int .i64 (n : Nat), rC _ (.slice (some ⟨0, 0, none⟩) n 0)] = _
    rw [this]
  have hp1 : rV (fun i => if i = 0 then plOf A c else plOf B d) (.agg #[.int .i64 ((m : Nat)), .slice (some ⟨1, 0, none⟩) m 0]) = .agg #[.int .i64 ((m : Nat)), .slice B m d] := by
    have := plOf_slice (ρ := fun i => if i = 0 then plOf A c else plOf B d) (A := B) (c := d) (i := 1) (n := m) rfl
    show Value.agg #[.int .i64 (m : Nat), rC _ (.slice (some ⟨1, 0, none⟩) m 0)] = _
    rw [this]
  rw [List.map_cons, List.map_cons, List.map_nil, hp0, hp1] at H
  refine H.mono fun e w' he => ?_
  obtain ⟨u, st, ρ, a, ⟨q, rfl, hq⟩, rfl, hs⟩ := he
  obtain ⟨A', c', h10, h11⟩ := vec_own (n := n + m) (hs.bx _ _ hq).1 (by rw [enL_len, mg_len, hx, hy]) (by decide) (allFC_en _ _)
  have e9 : rV ρ (.tuple #[.agg #[.int .i64 ((n + m : Nat)), .slice (some ⟨q, 0, none⟩) (n + m) 0], .int .i64 0]) = .tuple #[.agg #[.int .i64 ((n + m : Nat)), (rC ρ (.slice (some ⟨q, 0, none⟩) (n + m) 0))], .int .i64 0] := rfl
  exact ⟨A', c', by rw [e9, h10], h11, hs.bl⟩
end Go.Proofs.YtbageimconenlaaGreat
