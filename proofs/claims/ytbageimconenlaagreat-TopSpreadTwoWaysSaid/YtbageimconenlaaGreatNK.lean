/- Closures; the marks that are close. -/
import Derived.Test.YtbageimconenlaaGreatNJ
namespace Go.Proofs.YtbageimconenlaaGreat
open Go.RowKit En
set_option linter.unusedVariables false
theorem AOk.callF {P : Program} {s : St} {o : Oper} {c : Call} {g : FuncId} {y : Operand} {vs : List Value} {caps : Array Value} {σ : List (Nat × Box)} {v : Value}
    (h : ∀ (B : Nat) (ρ : Nat → Pl) (w : World), B ≤ w.heap.size → (∀ n b, (n, b) ∈ σ → BoxOK B ρ w n b) → Calls P g ((vs.map (rV ρ)).toArray ++ mapA (rC ρ) caps) w (fun e w' => e = .returned v ∧ Below w.heap.size w w'))
    (hent : Enters P g) (ho : o.op = .call c) (hc : c.callee = .value y) (hy : ev s y = some (.func (.func g) #[] caps)) (hargs : evs s c.args.toList = some vs) (hσ : ∀ n b, (n, b) ∈ σ → En.lk s.σ n = some b) (hv : flatV v = true) : AOk P s o ⟨rq s (y :: c.args.toList), σ⟩ ⟨v, [], []⟩ := by
  refine ⟨fun B => ⟨fun al hr => .val (NB.flat hv), fun ρ a w al hm hr hfr K Q hK => .inl ?_⟩, ⟨fun t v h => rq_in h, hσ⟩, fun n b h => no_mem h, .inl rfl, fun n b h => no_mem h⟩
  have hC := h B ρ w hm.hB hm.σ
  have hyv : a.eval y = .func (.func g) #[] (mapA (rC ρ) caps) := ev_eval hm List.mem_cons_self hy
  have hav : c.args.toList.map a.eval = vs.map (rV ρ) := evs_eval hm (fun x hx => List.mem_cons_of_mem _ hx) hargs
  have hmap : (c.args.map a.eval) = (vs.map (rV ρ)).toArray := by rw [← hav, ← Array.toList_map, Array.toArray_toList]
  have hex : (execOp a.eval o).run P w = (callFunc g ((vs.map (rV ρ)).toArray ++ mapA (rC ρ) caps)).run P w := by
    unfold execOp
    simp only [ho, resolve, hc, hmap, hyv, Deferred.ofValue, Sem.run_bind, Sem.run_pure, Result.andThen_ok, invoke]
    simp
  unfold Oper.wp
  rw [hex, hent]
  show Calls P g _ w _
  refine hC.mono fun e w' he => ?_
  obtain ⟨rfl, heff⟩ := he
  have := hK ρ w' (Eff.below v heff)
  rw [rV_flat ρ hv] at this
  exact this
set_option maxRecDepth 100000 in
/-- the closure of spread.Add -/
theorem nl_near (a b : Mk) (k W0 : Int) (ha : MkOK a) (hb : MkOK b) (k1 : 1 ≤ k) (k2 : k ≤ 64) (w : World) (g o : Nat) (h0 : w.cell? ⟨g, o + 0, none⟩ = some (.int .i64 W0)) (h1 : w.cell? ⟨g, o + 1, none⟩ = some (.int .i64 k)) :
    Calls Tryz.prog 113 #[.agg #[.int .i64 a.seq, .int .i64 a.t, .int .i64 a.n, .int .i64 a.s, .int .i64 a.q, .int .i64 a.mn, .int .i64 a.mx], .agg #[.int .i64 b.seq, .int .i64 b.t, .int .i64 b.n, .int .i64 b.s, .int .i64 b.q, .int .i64 b.mn, .int .i64 b.mx], .pointer (some ⟨g, o + 0, none⟩)] w (fun e w' => e = .returned (.bool (closeB k a b)) ∧ Below w.heap.size w w') := by
  have H := fun_fin tblOK (I := 1) mixedP Tryz.func113 rfl [.agg #[.int .i64 a.seq, .int .i64 a.t, .int .i64 a.n, .int .i64 a.s, .int .i64 a.q, .int .i64 a.mn, .int .i64 a.mx], .agg #[.int .i64 b.seq, .int .i64 b.t, .int .i64 b.n, .int .i64 b.s, .int .i64 b.q, .int .i64 b.mn, .int .i64 b.mx], .pointer (some ⟨0, 0, none⟩)] [(0, .view 1 [.int .i64 W0, .int .i64 k])] (fun _ => pl4 g o 2 false) w 11 [(0, .agg #[.int .i64 a.seq, .int .i64 a.t, .int .i64 a.n, .int .i64 a.s, .int .i64 a.q, .int .i64 a.mn, .int .i64 a.mx]), (1, .agg #[.int .i64 b.seq, .int .i64 b.t, .int .i64 b.n, .int .i64 b.s, .int .i64 b.q, .int .i64 b.mn, .int .i64 b.mx]), (2, .pointer (some ⟨0, 0, none⟩))] rfl rfl (by kernel_rfl) [0] rfl rfl rfl (fun m b hmb => by
    rw [En.lk_cons] at hmb
    split at hmb
    · rename_i e
      subst e
      cases hmb
      refine ⟨by omega, ⟨show 2 ≤ maxLen by decide, show 2 ≤ 2 * 1 by decide, fun j v hv => ⟨rfl, cell_lt h0, ?_⟩⟩, fun v hv => NBc.flat (allFC_spec (l := [.int .i64 W0, .int .i64 k]) rfl v hv), fun hw => hw⟩
      match j, hv with
      | 0, hv => cases hv; exact h0
      | 1, hv => cases hv; exact h1
      | j + 2, hv => simp at hv
    · cases hmb) (fun u _ => u = .bool (closeB k a b)) (by
    repeat' (first
      | refine AR.auto rfl ?_
      | refine AR.man (ok_ns_close (a := a) (b := b) (k := k) ha hb k1 k2 rfl rfl rfl) rfl rfl rfl ?_
      | refine AR.nil ?_
      | refine KF.mk ?_
      | refine KT.mk (by kernel_rfl) ?_
      | refine SQ.normal ?_
      | refine AC.seq ?_
      | refine AC.regF ?_
      | refine AC.regT ?_
      | refine AC.condT rfl ?_
      | refine AC.condF rfl ?_
      | refine AC.block ?_
      | refine BQ.normal ?_
      | refine BQ.ret ?_
      | refine BQ.here ?_
      | refine BQ.there rfl ?_
      | refine SQ.ret ?_
      | refine SQ.exit ?_
      | refine AC.ret ?_
      | refine AC.exit ?_
      | refine AC.skip ?_
      | (refine AR.split rfl (fun h => ?_) (fun h => ?_) <;> rw [h])
      | (refine AC.cond rfl (fun h => ?_) (fun h => ?_) <;> rw [h])
      | refine FQ.ret rfl rfl ?_
      | refine FQ.normal rfl rfl ?_)
    all_goals rfl)
  refine Calls.mono (show Calls Tryz.prog 113 #[.agg #[.int .i64 a.seq, .int .i64 a.t, .int .i64 a.n, .int .i64 a.s, .int .i64 a.q, .int .i64 a.mn, .int .i64 a.mx], .agg #[.int .i64 b.seq, .int .i64 b.t, .int .i64 b.n, .int .i64 b.s, .int .i64 b.q, .int .i64 b.mn, .int .i64 b.mx], .pointer (some ⟨g, o + 0, none⟩)] w _ from H) fun e w' he => ?_
  obtain ⟨v, s, ρ, a, rfl, rfl, hs⟩ := he
  exact ⟨rfl, hs.bl⟩
/-- the place behind i that is taken next: the last one close to it, else i + 1 -/
def scanI (f : Nat → Nat → Bool) (i : Nat) : Nat → Nat
  | 0 => i + 1
  | j + 1 => if j + 1 ≤ i then i + 1 else if f i (j + 1) = true then j + 1 else scanI f i j
theorem scanI_gt (f : Nat → Nat → Bool) (i : Nat) : ∀ j, i < scanI f i j
  | 0 => Nat.lt_succ_self _
  | j + 1 => by
    unfold scanI
    split
    · exact Nat.lt_succ_self _
    · split
      · omega
      · exact scanI_gt f i j
theorem scanI_le (f : Nat → Nat → Bool) (i : Nat) : ∀ j, j ≤ i → scanI f i j = i + 1
  | 0, _ => rfl
  | j + 1, h => by unfold scanI; rw [if_pos h]
/-- the places that stay -/
def pruneI (f : Nat → Nat → Bool) (n : Nat) : Nat → Nat → List Nat
  | 0, _ => []
  | k + 1, i => if i < n then i :: pruneI f n k (scanI f i (n - 1)) else []
theorem pruneI_end (f : Nat → Nat → Bool) (n : Nat) : ∀ k i, n ≤ i → pruneI f n k i = []
  | 0, _, _ => rfl
  | k + 1, i, h => by unfold pruneI; rw [if_neg (by omega)]
def nearI (k : Int) (l : List Mk) (i j : Nat) : Bool := match l[i]?, l[j]? with | some a, some b => closeB k a b | _, _ => false
def pickI (l : List Mk) : List Nat → List Mk
  | [] => []
  | i :: r => match l[i]? with | some m => m :: pickI l r | none => pickI l r
theorem ent113 : Enters Tryz.prog 113 := enters Tryz.func113 (by kernel_rfl) (by kernel_rfl)
theorem nearC (a b : Mk) (k W0 : Int) (ha : MkOK a) (hb : MkOK b) (k1 : 1 ≤ k) (k2 : k ≤ 64) {B : Nat} {ρ : Nat → Pl} {w : World} (hB : B ≤ w.heap.size) (hx : BoxOK B ρ w 1 (.view 1 [.int .i64 W0, .int .i64 k])) :
    Calls Tryz.prog 113 (([.agg #[.int .i64 a.seq, .int .i64 a.t, .int .i64 a.n, .int .i64 a.s, .int .i64 a.q, .int .i64 a.mn, .int .i64 a.mx], .agg #[.int .i64 b.seq, .int .i64 b.t, .int .i64 b.n, .int .i64 b.s, .int .i64 b.q, .int .i64 b.mn, .int .i64 b.mx]].map (rV ρ)).toArray ++ mapA (rC ρ) #[.pointer (some ⟨1, 0, none⟩)]) w (fun e w' => e = .returned (.bool (closeB k a b)) ∧ Below w.heap.size w w') := by
  have e1 : w.cell? ⟨(ρ 1).b, (ρ 1).o + 0, none⟩ = some (.int .i64 W0) := (hx.2.2 0 _ rfl).2.2
  have e2 : w.cell? ⟨(ρ 1).b, (ρ 1).o + 1, none⟩ = some (.int .i64 k) := (hx.2.2 1 _ rfl).2.2
  exact nl_near a b k W0 ha hb k1 k2 w (ρ 1).b (ρ 1).o e1 e2
set_option maxRecDepth 100000 in
theorem nm_prune (l : List Mk) (n : Nat) (k W0 : Int) (hl : l.length = n) (hn : n ≤ 1000) (hok : ∀ m ∈ l, MkOK m) (k1 : 1 ≤ k) (k2 : k ≤ 64) (w : World) (A : Option Addr) (c g : Nat) (h : SL w A n c 7 (mkL l)) (h0 : w.cell? ⟨g, 0, none⟩ = some (.int .i64 W0)) (h1 : w.cell? ⟨g, 1, none⟩ = some (.int .i64 k)) :
    Calls Tryz.prog 108 #[.slice A n c, .func (.func 113) #[] #[.pointer (some ⟨g, 0, none⟩)]] w (fun e w' => ∃ A' c' out, out = pickI l (pruneI (nearI k l) n n 0) ∧ e = .returned (.slice A' out.length c') ∧ OwnK w' w.heap.size 203 7 (.slice A' out.length c') out.length (mkL out) ∧ Below w.heap.size w w') := by
  have H := fun_fin tblOK (I := 2) mixedP Tryz.func108 rfl [.slice (some ⟨0, 0, none⟩) n 0, .func (.func 113) #[] #[.pointer (some ⟨1, 0, none⟩)]] [(0, .view 7 (mkL l)), (1, .view 1 [.int .i64 W0, .int .i64 k])] (fun i => if i = 0 then plOf A c else pl4 g 0 2 false) w 43 [(0, .slice (some ⟨0, 0, none⟩) n 0), (1, .func (.func 113) #[] #[.pointer (some ⟨1, 0, none⟩)])] rfl rfl (by kernel_rfl) [1, 0] rfl rfl rfl (fun m b hmb => by
    rw [En.lk_cons] at hmb
    split at hmb
    · rename_i e
      subst e
      cases hmb
      exact ⟨by omega, h.view (allFC_mk _) (by decide) rfl, fun v hv => NBc.flat (allFC_spec (allFC_mk _) v hv), fun hw => hw⟩
    · rw [En.lk_cons] at hmb
      split at hmb
      · rename_i e
        subst e
        cases hmb
        refine ⟨by omega, ⟨show 2 ≤ maxLen by decide, show 2 ≤ 2 * 1 by decide, fun j v hv => ⟨rfl, cell_lt h0, ?_⟩⟩, fun v hv => NBc.flat (allFC_spec (l := [.int .i64 W0, .int .i64 k]) rfl v hv), fun hw => hw⟩
        match j, hv with
        | 0, hv => cases hv; exact h0
        | 1, hv => cases hv; exact h1
        | j + 2, hv => simp at hv
      · cases hmb) (fun u st => ∃ q, u = .slice (some ⟨q, 0, none⟩) (pickI l (pruneI (nearI k l) n n 0)).length 0 ∧ En.lk st.σ q = some (.vec 203 7 (mkL (pickI l (pruneI (nearI k l) n n 0))))) (by
    repeat' (first
      | refine AR.auto rfl ?_
      | refine AR.nil ?_
      | refine KF.mk ?_
      | refine KT.mk (by kernel_rfl) ?_
      | refine SQ.normal ?_
      | refine AC.seq ?_
      | refine AC.regF ?_
      | refine AC.regT ?_
      | refine AC.condT rfl ?_
      | refine AC.condF rfl ?_
      | refine AC.block ?_
      | refine BQ.normal ?_
      | refine BQ.ret ?_
      | refine BQ.here ?_
      | refine BQ.there rfl ?_
      | refine SQ.ret ?_
      | refine SQ.exit ?_
      | refine AC.ret ?_
      | refine AC.exit ?_
      | refine AC.skip ?_
      | (refine AR.split rfl (fun h => ?_) (fun h => ?_) <;> rw [h])
      | (refine AC.cond rfl (fun h => ?_) (fun h => ?_) <;> rw [h])
      | refine FQ.ret rfl rfl ?_
      | refine FQ.normal rfl rfl ?_)
    refine AC.loop (fun m st => ∃ (i nd : Nat) (out : List Mk), m = n - i ∧ nd = out.length ∧ nd ≤ i ∧ out ++ pickI l (pruneI (nearI k l) n (n - nd) i) = pickI l (pruneI (nearI k l) n n 0) ∧ st = ⟨[(6, .int .i64 (i : Nat)), (5, .slice (some ⟨2, 0, none⟩) nd 0), (1, .func (.func 113) #[] #[.pointer (some ⟨1, 0, none⟩)]), (0, .slice (some ⟨0, 0, none⟩) n 0)], [(2, .vec 203 7 (mkL out)), (0, .view 7 (mkL l)), (1, .view 1 [.int .i64 W0, .int .i64 k])], [2, 1, 0], 43⟩) n _ ?_ ⟨0, 0, [], rfl, rfl, Nat.le_refl _, rfl, rfl⟩ ?_
    · refine Ren.trans (Ren.vnil 5 203 7 2 rfl rfl) ?_
      exact Ren.mv (tabF []) rfl (fun k hk => by match k, hk with | 0, _ => exact ⟨rfl, rfl⟩ | 1, _ => exact ⟨rfl, rfl⟩) ⟨⟨rfl, rfl⟩, ⟨rfl, rfl⟩, ⟨rfl, rfl⟩, ⟨rfl, rfl⟩, trivial⟩ ⟨⟨by rw [mv_mkr]; rfl, rfl, allNC_mk _ _⟩, ⟨by rw [mv_mkv]; rfl, rfl, allNC_mk _ _⟩, ⟨rfl, rfl, rfl⟩, trivial⟩ rfl
    intro m st hi
    obtain ⟨i, nd, out, rfl, hnd, hndi, hout, rfl⟩ := hi
    by_cases hlt : i < n
    · have hd : decide ((i : Int) < (n : Int)) = true := by simp; omega
      obtain ⟨a, ha⟩ : ∃ a, l[i]? = some a := ⟨l[i]'(by omega), List.getElem?_eq_getElem (by omega)⟩
      have w1 : IntKind.i64.wrap ((i : Int) + 1) = ((i + 1 : Nat) : Int) := by rw [IntWalk.i64_in _ (by omega)]; rfl
      have w2 : IntKind.i64.wrap ((n : Int) - 1) = ((n - 1 : Nat) : Int) := by rw [IntWalk.i64_in _ (by omega)]; omega
      repeat' (first
        | rw [hd]
        | rw [w1]
        | rw [w2]
        | refine AR.auto rfl ?_
        | refine AR.man (okm_idx (A0 := 0) (i := i) rfl rfl rfl rfl (nonE_mkv 7 (by omega)) hlt) rfl rfl rfl ?_
        | refine AR.man (okm_ld (m := a) rfl rfl rfl (fun j u hu => by rw [Nat.zero_add, show (Box.view 7 (mkL l)).cells = mkL l from rfl, mkL_at l i j a ha (by have := (List.getElem?_eq_some_iff.1 hu).1; simpa [mkC] using this)]; exact hu)) rfl rfl rfl ?_
        | refine AR.man (okm_app 4 (l := out) (m := a) hnd.symm (by omega) rfl rfl rfl rfl rfl rfl rfl rfl rfl) rfl rfl rfl ?_
        | refine AR.nil ?_
        | refine KF.mk ?_
        | refine KT.mk (by kernel_rfl) ?_
        | refine SQ.normal ?_
        | refine AC.seq ?_
        | refine AC.regF ?_
        | refine AC.regT ?_
        | refine AC.condT rfl ?_
        | refine AC.condF rfl ?_
        | refine AC.block ?_
        | refine BQ.normal ?_
        | refine BQ.ret ?_
        | refine BQ.here ?_
        | refine BQ.there rfl ?_
        | refine SQ.ret ?_
        | refine SQ.exit ?_
        | refine AC.ret ?_
        | refine AC.exit ?_
        | refine AC.skip ?_
        | (refine AR.split rfl (fun h => ?_) (fun h => ?_) <;> rw [h])
        | (refine AC.cond rfl (fun h => ?_) (fun h => ?_) <;> rw [h])
        | refine FQ.ret rfl rfl ?_
        | refine FQ.normal rfl rfl ?_)
      have hpr : pruneI (nearI k l) n (n - nd) i = i :: pruneI (nearI k l) n (n - (nd + 1)) (scanI (nearI k l) i (n - 1)) := by
        rw [show n - nd = (n - (nd + 1)) + 1 by omega, pruneI, if_pos hlt]
      have hout' : (out ++ [a]) ++ pickI l (pruneI (nearI k l) n (n - (nd + 1)) (scanI (nearI k l) i (n - 1))) = pickI l (pruneI (nearI k l) n n 0) := by
        rw [← hout, hpr, pickI, ha, List.append_assoc]; rfl
      have hgt := scanI_gt (nearI k l) i (n - 1)
      have hnl : (out ++ [a]).length = nd + 1 := by simp [hnd]
      obtain ⟨out', ho'⟩ : ∃ o', out ++ [a] = o' := ⟨_, rfl⟩
      rw [ho'] at hout' hnl
      rw [ho']
      refine AC.loop (fun m st => m ≤ n - 1 ∧ scanI (nearI k l) i m = scanI (nearI k l) i (n - 1) ∧ st = ⟨[(8, .int .i64 (m : Nat)), (7, .int .i64 ((i + 1 : Nat))), (6, .int .i64 (i : Nat)), (5, .slice (some ⟨2, 0, none⟩) (nd + 1) 0), (1, .func (.func 113) #[] #[.pointer (some ⟨1, 0, none⟩)]), (0, .slice (some ⟨0, 0, none⟩) n 0)], [(2, .vec 203 7 (mkL out')), (0, .view 7 (mkL l)), (1, .view 1 [.int .i64 W0, .int .i64 k])], [2, 1, 0], 43⟩) (n - 1) _ ?_ ⟨Nat.le_refl _, rfl, rfl⟩ ?_
      · exact Ren.mv (tabF [(2, 4)]) rfl (fun k hk => by match k, hk with | 0, _ => exact ⟨rfl, rfl⟩ | 1, _ => exact ⟨rfl, rfl⟩) ⟨⟨rfl, rfl⟩, ⟨rfl, rfl⟩, ⟨rfl, rfl⟩, ⟨rfl, rfl⟩, ⟨rfl, rfl⟩, ⟨rfl, rfl⟩, trivial⟩ ⟨⟨by rw [mv_mkr]; rfl, rfl, allNC_mk _ _⟩, ⟨by rw [mv_mkv]; rfl, rfl, allNC_mk _ _⟩, ⟨rfl, rfl, rfl⟩, trivial⟩ rfl
      intro j st hi
      obtain ⟨hjn, hsc, rfl⟩ := hi
      by_cases hji : i < j
      · obtain ⟨j, rfl⟩ : ∃ j', j = j' + 1 := ⟨j - 1, by omega⟩
        have hd2 : decide (((j + 1 : Nat) : Int) > (i : Int)) = true := by simp only [decide_eq_true_eq]; omega
        obtain ⟨b, hb⟩ : ∃ b, l[j + 1]? = some b := ⟨l[j + 1]'(by omega), List.getElem?_eq_getElem (by omega)⟩
        have hna : nearI k l i (j + 1) = closeB k a b := by unfold nearI; rw [ha, hb]
        have w3 : IntKind.i64.wrap (((j + 1 : Nat) : Int) - 1) = (j : Int) := by rw [IntWalk.i64_in _ (by omega)]; omega
        rw [scanI, if_neg (by omega), hna] at hsc
        cases hcl : closeB k a b with
        | true =>
          rw [if_pos hcl] at hsc
          repeat' (first
            | rw [hd2]
            | rw [hcl]
            | refine AR.auto rfl ?_
            | refine AR.man (okm_idx (A0 := 0) (i := i) rfl rfl rfl rfl (nonE_mkv 7 (by omega)) hlt) rfl rfl rfl ?_
            | refine AR.man (okm_idx (A0 := 0) (i := j + 1) rfl rfl rfl rfl (nonE_mkv 7 (by omega)) (by omega)) rfl rfl rfl ?_
            | refine AR.man (okm_ld (m := a) rfl rfl rfl (fun jj u hu => by rw [Nat.zero_add, show (Box.view 7 (mkL l)).cells = mkL l from rfl, mkL_at l i jj a ha (by have := (List.getElem?_eq_some_iff.1 hu).1; simpa [mkC] using this)]; exact hu)) rfl rfl rfl ?_
            | refine AR.man (okm_ld (m := b) rfl rfl rfl (fun jj u hu => by rw [Nat.zero_add, show (Box.view 7 (mkL l)).cells = mkL l from rfl, mkL_at l (j + 1) jj b hb (by have := (List.getElem?_eq_some_iff.1 hu).1; simpa [mkC] using this)]; exact hu)) rfl rfl rfl ?_
            | refine AR.man (AOk.callF (g := 113) (vs := [.agg #[.int .i64 a.seq, .int .i64 a.t, .int .i64 a.n, .int .i64 a.s, .int .i64 a.q, .int .i64 a.mn, .int .i64 a.mx], .agg #[.int .i64 b.seq, .int .i64 b.t, .int .i64 b.n, .int .i64 b.s, .int .i64 b.q, .int .i64 b.mn, .int .i64 b.mx]]) (caps := #[.pointer (some ⟨1, 0, none⟩)]) (σ := [(1, .view 1 [.int .i64 W0, .int .i64 k])]) (v := .bool (closeB k a b)) (fun B ρ w hB hbx => nearC a b k W0 (hok a (List.mem_of_getElem? ha)) (hok b (List.mem_of_getElem? hb)) k1 k2 hB (hbx 1 _ List.mem_cons_self)) ent113 rfl rfl rfl rfl (fun n b h => by simp at h; obtain ⟨rfl, rfl⟩ := h; rfl) rfl) rfl rfl rfl ?_
            | refine AR.nil ?_
            | refine KF.mk ?_
            | refine KT.mk (by kernel_rfl) ?_
            | refine SQ.normal ?_
            | refine AC.seq ?_
            | refine AC.regF ?_
            | refine AC.regT ?_
            | refine AC.condT rfl ?_
            | refine AC.condF rfl ?_
            | refine AC.block ?_
            | refine BQ.normal ?_
            | refine BQ.ret ?_
            | refine BQ.here ?_
            | refine BQ.there rfl ?_
            | refine SQ.ret ?_
            | refine SQ.exit ?_
            | refine AC.ret ?_
            | refine AC.exit ?_
            | refine AC.skip ?_
            | (refine AR.split rfl (fun h => ?_) (fun h => ?_) <;> rw [h])
            | (refine AC.cond rfl (fun h => ?_) (fun h => ?_) <;> rw [h])
            | refine FQ.ret rfl rfl ?_
            | refine FQ.normal rfl rfl ?_)
          refine ⟨n - (j + 1), _, by omega, ?_, j + 1, nd + 1, out', rfl, hnl.symm, by omega, by rw [hsc]; exact hout', rfl⟩
          exact Ren.mv (tabF []) rfl (fun k hk => by match k, hk with | 0, _ => exact ⟨rfl, rfl⟩ | 1, _ => exact ⟨rfl, rfl⟩) ⟨⟨rfl, rfl⟩, ⟨rfl, rfl⟩, ⟨rfl, rfl⟩, ⟨rfl, rfl⟩, trivial⟩ ⟨⟨by rw [mv_mkr]; rfl, rfl, allNC_mk _ _⟩, ⟨by rw [mv_mkv]; rfl, rfl, allNC_mk _ _⟩, ⟨rfl, rfl, rfl⟩, trivial⟩ rfl
        | false =>
          rw [hcl, if_neg (by decide)] at hsc
          repeat' (first
            | rw [hd2]
            | rw [hcl]
            | rw [w3]
            | refine AR.auto rfl ?_
            | refine AR.man (okm_idx (A0 := 0) (i := i) rfl rfl rfl rfl (nonE_mkv 7 (by omega)) hlt) rfl rfl rfl ?_
            | refine AR.man (okm_idx (A0 := 0) (i := j + 1) rfl rfl rfl rfl (nonE_mkv 7 (by omega)) (by omega)) rfl rfl rfl ?_
            | refine AR.man (okm_ld (m := a) rfl rfl rfl (fun jj u hu => by rw [Nat.zero_add, show (Box.view 7 (mkL l)).cells = mkL l from rfl, mkL_at l i jj a ha (by have := (List.getElem?_eq_some_iff.1 hu).1; simpa [mkC] using this)]; exact hu)) rfl rfl rfl ?_
            | refine AR.man (okm_ld (m := b) rfl rfl rfl (fun jj u hu => by rw [Nat.zero_add, show (Box.view 7 (mkL l)).cells = mkL l from rfl, mkL_at l (j + 1) jj b hb (by have := (List.getElem?_eq_some_iff.1 hu).1; simpa [mkC] using this)]; exact hu)) rfl rfl rfl ?_
            | refine AR.man (AOk.callF (g := 113) (vs := [.agg #[.int .i64 a.seq, .int .i64 a.t, .int .i64 a.n, .int .i64 a.s, .int .i64 a.q, .int .i64 a.mn, .int .i64 a.mx], .agg #[.int .i64 b.seq, .int .i64 b.t, .int .i64 b.n, .int .i64 b.s, .int .i64 b.q, .int .i64 b.mn, .int .i64 b.mx]]) (caps := #[.pointer (some ⟨1, 0, none⟩)]) (σ := [(1, .view 1 [.int .i64 W0, .int .i64 k])]) (v := .bool (closeB k a b)) (fun B ρ w hB hbx => nearC a b k W0 (hok a (List.mem_of_getElem? ha)) (hok b (List.mem_of_getElem? hb)) k1 k2 hB (hbx 1 _ List.mem_cons_self)) ent113 rfl rfl rfl rfl (fun n b h => by simp at h; obtain ⟨rfl, rfl⟩ := h; rfl) rfl) rfl rfl rfl ?_
            | refine AR.nil ?_
            | refine KF.mk ?_
            | refine KT.mk (by kernel_rfl) ?_
            | refine SQ.normal ?_
            | refine AC.seq ?_
            | refine AC.regF ?_
            | refine AC.regT ?_
            | refine AC.condT rfl ?_
            | refine AC.condF rfl ?_
            | refine AC.block ?_
            | refine BQ.normal ?_
            | refine BQ.ret ?_
            | refine BQ.here ?_
            | refine BQ.there rfl ?_
            | refine SQ.ret ?_
            | refine SQ.exit ?_
            | refine AC.ret ?_
            | refine AC.exit ?_
            | refine AC.skip ?_
            | (refine AR.split rfl (fun h => ?_) (fun h => ?_) <;> rw [h])
            | (refine AC.cond rfl (fun h => ?_) (fun h => ?_) <;> rw [h])
            | refine FQ.ret rfl rfl ?_
            | refine FQ.normal rfl rfl ?_)
          refine ⟨j, _, Nat.lt_succ_self j, ?_, by omega, hsc, rfl⟩
          exact Ren.mv (tabF []) rfl (fun k hk => by match k, hk with | 0, _ => exact ⟨rfl, rfl⟩ | 1, _ => exact ⟨rfl, rfl⟩) ⟨⟨rfl, rfl⟩, ⟨rfl, rfl⟩, ⟨rfl, rfl⟩, ⟨rfl, rfl⟩, ⟨rfl, rfl⟩, ⟨rfl, rfl⟩, trivial⟩ ⟨⟨by rw [mv_mkr]; rfl, rfl, allNC_mk _ _⟩, ⟨by rw [mv_mkv]; rfl, rfl, allNC_mk _ _⟩, ⟨rfl, rfl, rfl⟩, trivial⟩ rfl
      · have hd2 : decide ((j : Int) > (i : Int)) = false := by simp only [decide_eq_false_iff_not]; omega
        rw [scanI_le _ _ _ (by omega)] at hsc
        repeat' (first
          | rw [hd2]
          | refine AR.auto rfl ?_
          | refine AR.nil ?_
          | refine KF.mk ?_
          | refine KT.mk (by kernel_rfl) ?_
          | refine SQ.normal ?_
          | refine AC.seq ?_
          | refine AC.regF ?_
          | refine AC.regT ?_
          | refine AC.condT rfl ?_
          | refine AC.condF rfl ?_
          | refine AC.block ?_
          | refine BQ.normal ?_
          | refine BQ.ret ?_
          | refine BQ.here ?_
          | refine BQ.there rfl ?_
          | refine SQ.ret ?_
          | refine SQ.exit ?_
          | refine AC.ret ?_
          | refine AC.exit ?_
          | refine AC.skip ?_
          | (refine AR.split rfl (fun h => ?_) (fun h => ?_) <;> rw [h])
          | (refine AC.cond rfl (fun h => ?_) (fun h => ?_) <;> rw [h])
          | refine FQ.ret rfl rfl ?_
          | refine FQ.normal rfl rfl ?_)
        refine ⟨n - (i + 1), _, by omega, ?_, i + 1, nd + 1, out', rfl, hnl.symm, by omega, by rw [hsc]; exact hout', rfl⟩
        exact Ren.mv (tabF []) rfl (fun k hk => by match k, hk with | 0, _ => exact ⟨rfl, rfl⟩ | 1, _ => exact ⟨rfl, rfl⟩) ⟨⟨rfl, rfl⟩, ⟨rfl, rfl⟩, ⟨rfl, rfl⟩, ⟨rfl, rfl⟩, trivial⟩ ⟨⟨by rw [mv_mkr]; rfl, rfl, allNC_mk _ _⟩, ⟨by rw [mv_mkv]; rfl, rfl, allNC_mk _ _⟩, ⟨rfl, rfl, rfl⟩, trivial⟩ rfl
    · have hd : decide ((i : Int) < (n : Int)) = false := by simp only [decide_eq_false_iff_not]; omega
      rw [pruneI_end _ _ _ _ (by omega), pickI, List.append_nil] at hout
      subst hout
      repeat' (first
        | rw [hd]
        | refine AR.auto rfl ?_
        | refine AR.nil ?_
        | refine KF.mk ?_
        | refine KT.mk (by kernel_rfl) ?_
        | refine SQ.normal ?_
        | refine AC.seq ?_
        | refine AC.regF ?_
        | refine AC.regT ?_
        | refine AC.condT rfl ?_
        | refine AC.condF rfl ?_
        | refine AC.block ?_
        | refine BQ.normal ?_
        | refine BQ.ret ?_
        | refine BQ.here ?_
        | refine BQ.there rfl ?_
        | refine SQ.ret ?_
        | refine SQ.exit ?_
        | refine AC.ret ?_
        | refine AC.exit ?_
        | refine AC.skip ?_
        | (refine AR.split rfl (fun h => ?_) (fun h => ?_) <;> rw [h])
        | (refine AC.cond rfl (fun h => ?_) (fun h => ?_) <;> rw [h])
        | refine FQ.ret rfl rfl ?_
        | refine FQ.normal rfl rfl ?_)
      exact ⟨2, by rw [hnd]; rfl, rfl⟩)
  have hp0 : rV (fun i => if i = 0 then plOf A c else pl4 g 0 2 false) (.slice (some ⟨0, 0, none⟩) n 0) = .slice A n c := plOf_slice (ρ := fun i => if i = 0 then plOf A c else pl4 g 0 2 false) (A := A) (c := c) (i := 0) rfl
  have hp1 : rV (fun i => if i = 0 then plOf A c else pl4 g 0 2 false) (.func (.func 113) #[] #[.pointer (some ⟨1, 0, none⟩)]) = .func (.func 113) #[] #[.pointer (some ⟨g, 0, none⟩)] := rfl
  simp only [List.map_cons, List.map_nil, hp0, hp1] at H
  refine Calls.mono (show Calls Tryz.prog 108 #[.slice A n c, .func (.func 113) #[] #[.pointer (some ⟨g, 0, none⟩)]] w _ from H) fun e w' he => ?_
  obtain ⟨u, st, ρ, a, ⟨q, rfl, hq⟩, rfl, hs⟩ := he
  obtain ⟨A', c', h3, h4⟩ := vec_own (n := (pickI l (pruneI (nearI k l) n n 0)).length) (hs.bx _ _ hq).1 (by rw [mkL_len]) (by decide) (allFC_mk _)
  exact ⟨A', c', _, rfl, by rw [show rV ρ (.slice (some ⟨q, 0, none⟩) (pickI l (pruneI (nearI k l) n n 0)).length 0) = rC ρ (.slice (some ⟨q, 0, none⟩) (pickI l (pruneI (nearI k l) n n 0)).length 0) from rfl, h3], h4, hs.bl⟩
end Go.Proofs.YtbageimconenlaaGreat
