/- Lists of marks: an item added to all of them. -/
import Derived.Test.YtbageimconenlaaGreatNI
namespace Go.Proofs.YtbageimconenlaaGreat
open Go.RowKit En
set_option linter.unusedVariables false
theorem ok_min {s : St} {o : Oper} {c : Call} {x y : Operand} {a b : Int} {r : Int} (hr : (if b < a then b else a) = r) (ho : o.op = .call c) (hcal : c.callee = .builtin .min) (hargs : c.args = #[x, y]) (hx : ev s x = some (.int .i64 a)) (hy : ev s y = some (.int .i64 b)) :
    AOk Tryz.prog s o ⟨rq s [x, y], []⟩ ⟨.int .i64 r, [], []⟩ := by
  subst hr
  refine .quiet fun B => ⟨Does.value (fun al _ => NB.flat rfl) fun ρ a' w hm => ?_, in_none, rfl, rfl⟩
  have hax := ev_eval hm (x := x) (by simp) hx
  have hay := ev_eval hm (x := y) (by simp) hy
  rw [rV_flat ρ rfl] at hax hay
  rw [rV_flat ρ rfl]
  unfold execOp
  simp only [ho, resolve, hcal, hargs, invoke, builtin, Sem.run_bind, Sem.run_pure, Result.andThen_ok, List.map_toArray, List.map_cons, List.map_nil, hax, hay, run_min_int2]
theorem mv_mk (f : Nat → Nat) (l : List Mk) : (mkL l).map (mvC f) = mkL l := by
  induction l with
  | nil => rfl
  | cons x l ih => rw [mkL, List.map_append, ih]; rfl
theorem mv_mkv (f : Nat → Nat) (k : Nat) (l : List Mk) : mvB f (.view k (mkL l)) = .view k (mkL l) := by
  show Box.view k _ = _; rw [mv_mk]
theorem mv_mkr (f : Nat → Nat) (e k : Nat) (l : List Mk) : mvB f (.vec e k (mkL l)) = .vec e k (mkL l) := by
  show Box.vec e k _ = _; rw [mv_mk]
theorem allNC_mk (al : List Nat) (l : List Mk) : allNC al (mkL l) = true := by
  induction l with
  | nil => rfl
  | cons x l ih => exact ih
/-- an item with the value v came in -/
def upM (v : Int) (m : Mk) : Mk := ⟨m.seq, m.t, m.n + 1, m.s + v, m.q + v * v, if v < m.mn then v else m.mn, if v > m.mx then v else m.mx⟩
theorem sq_bd {v : Int} (h1 : -4096 ≤ v) (h2 : v ≤ 4096) : 0 ≤ v * v ∧ v * v ≤ 16777216 := by
  have h3 : 0 ≤ (4096 - v) * (4096 + v) := Int.mul_nonneg (by omega) (by omega)
  have h4 : (4096 - v) * (4096 + v) = 16777216 - v * v := by grind
  have h5 : 0 ≤ v * v := by
    rcases Int.le_total 0 v with h | h
    · exact Int.mul_nonneg h h
    · exact Int.mul_nonneg_of_nonpos_of_nonpos h h
  omega
structure Small (m : Mk) : Prop where
  n : -1000 ≤ m.n ∧ m.n ≤ 1000
  s : -1000000 ≤ m.s ∧ m.s ≤ 1000000
  q : -10000000000 ≤ m.q ∧ m.q ≤ 10000000000
set_option maxRecDepth 100000 in
theorem nm_add (l : List Mk) (n : Nat) (sq tt v : Int) (hl : l.length = n) (hn : n ≤ 1000) (hsm : ∀ m ∈ l, Small m) (h1 : -4096 ≤ v) (h2 : v ≤ 4096) (w : World) (A : Option Addr) (c : Nat) (h : SL w A n c 7 (mkL l)) :
    Calls Tryz.prog 109 #[.slice A n c, .int .i64 sq, .int .i64 tt, .int .i64 v] w (fun e w' => ∃ A' c', e = .returned (.slice A' (n + 1) c') ∧ OwnK w' w.heap.size 203 7 (.slice A' (n + 1) c') (n + 1) (mkL (l.map (upM v) ++ [⟨sq, tt, 1, v, v * v, v, v⟩])) ∧ Below w.heap.size w w') := by
  obtain ⟨s0, s1⟩ := sq_bd h1 h2
  have wv : IntKind.i64.wrap (v * v) = v * v := IntWalk.i64_in _ (by omega)
  have H := fun_slice tblOK mixedP Tryz.func109 rfl (fun s => [s, .int .i64 sq, .int .i64 tt, .int .i64 v]) n 7 (mkL l) h (by decide) (allFC_mk l) [.slice (some ⟨0, 0, none⟩) n 0, .int .i64 sq, .int .i64 tt, .int .i64 v] rfl (fun _ => rfl) 61 [(0, .slice (some ⟨0, 0, none⟩) n 0), (1, .int .i64 sq), (2, .int .i64 tt), (3, .int .i64 v)] rfl rfl (by kernel_rfl) rfl rfl (fun u st => ∃ q, u = .slice (some ⟨q, 0, none⟩) (n + 1) 0 ∧ En.lk st.σ q = some (.vec 203 7 (mkL (l.map (upM v) ++ [⟨sq, tt, 1, v, v * v, v, v⟩])))) (by
    repeat' (first
      | refine AR.auto rfl ?_
      | refine AR.nil ?_
      | refine KF.mk ?_
      | refine KT.mk (by kernel_rfl) ?_
      | refine SQ.normal ?_
      | refine AC.seq ?_
      | refine AC.regF ?_
      | refine AC.regT ?_
      | refine AC.condT rfl ?_
      | refine AC.condF rfl ?_
      | refine AC.block ?_
      | refine BQ.normal ?_
      | refine BQ.ret ?_
      | refine BQ.here ?_
      | refine BQ.there rfl ?_
      | refine SQ.ret ?_
      | refine SQ.exit ?_
      | refine AC.ret ?_
      | refine AC.exit ?_
      | refine AC.skip ?_
      | (refine AR.split rfl (fun h => ?_) (fun h => ?_) <;> rw [h])
      | (refine AC.cond rfl (fun h => ?_) (fun h => ?_) <;> rw [h])
      | refine FQ.ret rfl rfl ?_
      | refine FQ.normal rfl rfl ?_)
    refine AC.loop (fun m st => ∃ i : Nat, m = n - i ∧ i ≤ n ∧ st = ⟨[(14, .int .i64 (i : Nat)), (13, .int .i64 (n : Nat)), (12, .slice (some ⟨0, 0, none⟩) n 0), (9, .slice (some ⟨1, 0, none⟩) i 0), (3, .int .i64 v), (2, .int .i64 tt), (1, .int .i64 sq)], [(1, .vec 203 7 (mkL ((l.take i).map (upM v)))), (0, .view 7 (mkL l))], [1, 0], 61⟩) n _ ?_ ⟨0, rfl, Nat.zero_le _, rfl⟩ ?_
    · refine Ren.trans (Ren.vnil 9 203 7 1 rfl rfl) ?_
      exact Ren.mv (tabF []) rfl (fun k hk => by match k, hk with | 0, _ => exact ⟨rfl, rfl⟩) ⟨⟨rfl, rfl⟩, ⟨rfl, rfl⟩, ⟨rfl, rfl⟩, ⟨rfl, rfl⟩, ⟨rfl, rfl⟩, ⟨rfl, rfl⟩, ⟨rfl, rfl⟩, trivial⟩ ⟨⟨by rw [mv_mkr]; rfl, rfl, allNC_mk _ _⟩, ⟨by rw [mv_mkv]; rfl, rfl, allNC_mk _ _⟩, trivial⟩ rfl
    intro m st hi
    obtain ⟨i, rfl, hin, rfl⟩ := hi
    by_cases hlt : i < n
    · have hd : decide ((i : Int) < (n : Int)) = true := by simp; omega
      obtain ⟨m, hm⟩ : ∃ m, l[i]? = some m := ⟨l[i]'(by omega), List.getElem?_eq_getElem (by omega)⟩
      have hs := hsm m (List.mem_of_getElem? hm)
      have b1 := hs.n
      have b2 := hs.s
      have b3 := hs.q
      have w1 : IntKind.i64.wrap (m.n + 1) = m.n + 1 := IntWalk.i64_in _ (by omega)
      have w2 : IntKind.i64.wrap (m.s + v) = m.s + v := IntWalk.i64_in _ (by omega)
      have w3 : IntKind.i64.wrap (m.q + v * v) = m.q + v * v := IntWalk.i64_in _ (by omega)
      have w4 : IntKind.i64.wrap ((i : Int) + 1) = ((i + 1 : Nat) : Int) := by rw [IntWalk.i64_in _ (by omega)]; rfl
      repeat' (first
        | rw [hd]
        | rw [wv]
        | rw [w1]
        | rw [w2]
        | rw [w3]
        | rw [w4]
        | refine AR.auto rfl ?_
        | refine AR.man (okm_idx (A0 := 0) (i := i) rfl rfl rfl rfl (nonE_mkv 7 (by omega)) hlt) rfl rfl rfl ?_
        | refine AR.man (okm_ld (m := m) rfl rfl rfl (fun j u hu => by rw [Nat.zero_add, show (Box.view 7 (mkL l)).cells = mkL l from rfl, mkL_at l i j m hm (by have := (List.getElem?_eq_some_iff.1 hu).1; simpa [mkC] using this)]; exact hu)) rfl rfl rfl ?_
        | refine AR.man (ok_min rfl rfl rfl rfl rfl rfl) rfl rfl rfl ?_
        | refine AR.man (ok_max rfl rfl rfl rfl rfl rfl) rfl rfl rfl ?_
        | refine AR.man (okm_app 4 (l := (l.take i).map (upM v)) (m := upM v m) (by simp; omega) (by omega) rfl rfl rfl rfl rfl rfl rfl rfl rfl) rfl rfl rfl ?_
        | refine AR.nil ?_
        | refine KF.mk ?_
        | refine KT.mk (by kernel_rfl) ?_
        | refine SQ.normal ?_
        | refine AC.seq ?_
        | refine AC.regF ?_
        | refine AC.regT ?_
        | refine AC.condT rfl ?_
        | refine AC.condF rfl ?_
        | refine AC.block ?_
        | refine BQ.normal ?_
        | refine BQ.ret ?_
        | refine BQ.here ?_
        | refine BQ.there rfl ?_
        | refine SQ.ret ?_
        | refine SQ.exit ?_
        | refine AC.ret ?_
        | refine AC.exit ?_
        | refine AC.skip ?_
        | (refine AR.split rfl (fun h => ?_) (fun h => ?_) <;> rw [h])
        | (refine AC.cond rfl (fun h => ?_) (fun h => ?_) <;> rw [h])
        | refine FQ.ret rfl rfl ?_
        | refine FQ.normal rfl rfl ?_)
      have eT : (l.take (i + 1)).map (upM v) = (l.take i).map (upM v) ++ [upM v m] := by rw [List.take_add_one, hm]; simp
      refine ⟨n - (i + 1), _, by omega, ?_, i + 1, rfl, by omega, rfl⟩
      rw [eT]
      exact Ren.mv (tabF [(1, 4)]) rfl (fun k hk => by match k, hk with | 0, _ => exact ⟨rfl, rfl⟩) ⟨⟨rfl, rfl⟩, ⟨rfl, rfl⟩, ⟨rfl, rfl⟩, ⟨rfl, rfl⟩, ⟨rfl, rfl⟩, ⟨rfl, rfl⟩, ⟨rfl, rfl⟩, trivial⟩ ⟨⟨by rw [mv_mkr]; rfl, rfl, allNC_mk _ _⟩, ⟨by rw [mv_mkv]; rfl, rfl, allNC_mk _ _⟩, trivial⟩ rfl
    · obtain rfl : i = n := by omega
      have hd : decide ((i : Int) < (i : Int)) = false := by simp
      have eT : l.take i = l := List.take_of_length_le (by omega)
      rw [eT]
      repeat' (first
        | rw [hd]
        | rw [wv]
        | refine AR.auto rfl ?_
        | refine AR.man (okm_app 3 (l := l.map (upM v)) (m := ⟨sq, tt, 1, v, v * v, v, v⟩) (by simp; omega) (by omega) rfl rfl rfl rfl rfl rfl rfl rfl rfl) rfl rfl rfl ?_
        | refine AR.nil ?_
        | refine KF.mk ?_
        | refine KT.mk (by kernel_rfl) ?_
        | refine SQ.normal ?_
        | refine AC.seq ?_
        | refine AC.regF ?_
        | refine AC.regT ?_
        | refine AC.condT rfl ?_
        | refine AC.condF rfl ?_
        | refine AC.block ?_
        | refine BQ.normal ?_
        | refine BQ.ret ?_
        | refine BQ.here ?_
        | refine BQ.there rfl ?_
        | refine SQ.ret ?_
        | refine SQ.exit ?_
        | refine AC.ret ?_
        | refine AC.exit ?_
        | refine AC.skip ?_
        | (refine AR.split rfl (fun h => ?_) (fun h => ?_) <;> rw [h])
        | (refine AC.cond rfl (fun h => ?_) (fun h => ?_) <;> rw [h])
        | refine FQ.ret rfl rfl ?_
        | refine FQ.normal rfl rfl ?_)
      exact ⟨3, rfl, rfl⟩)
  refine H.mono fun e w' he => ?_
  obtain ⟨u, st, ρ, a, ⟨q, rfl, hq⟩, rfl, hs⟩ := he
  obtain ⟨A', c', h3, h4⟩ := vec_own (n := n + 1) (hs.bx _ _ hq).1 (by rw [mkL_len]; simp [hl]) (by decide) (allFC_mk _)
  have h5 : rV ρ (.slice (some ⟨q, 0, none⟩) (n + 1) 0) = rC ρ (.slice (some ⟨q, 0, none⟩) (n + 1) 0) := rfl
  exact ⟨A', c', by rw [h5, h3], h4, hs.bl⟩
end Go.Proofs.YtbageimconenlaaGreat
