/- The engine: calls, results, a function's entry. No program in sight. -/
import Derived.Test.YtbageimconenlaaGreatE7
namespace Go.Proofs.YtbageimconenlaaGreat
open Go.RowKit
set_option linter.unusedVariables false
namespace En
theorem memB_spec {n : Nat} {l : List Nat} (h : memB n l = true) : n ∈ l := memB_iff.1 h
def nbC (al : List Nat) : Value → Bool
  | .pointer (some a) => memB a.block al
  | .slice (some a) _ _ => memB a.block al
  | _ => true
def allNC (al : List Nat) : List Value → Bool
  | [] => true
  | v :: l => nbC al v && allNC al l
def nb1 (al : List Nat) : Value → Bool
  | .agg cs => allNC al cs.toList
  | .func _ _ c => allNC al c.toList
  | v => nbC al v
def allN1 (al : List Nat) : List Value → Bool
  | [] => true
  | v :: l => nb1 al v && allN1 al l
def nbV (al : List Nat) : Value → Bool
  | .tuple vs => allN1 al vs.toList
  | v => nb1 al v
theorem nbC_NBc {al : List Nat} {v : Value} (h : nbC al v = true) : NBc al v := by
  intro ρ ρ' ha
  cases v with
  | pointer a =>
    cases a with
    | none => rfl
    | some a =>
      have := ha _ (memB_spec h)
      show Value.pointer (some (rA ρ a)) = .pointer (some (rA ρ' a))
      simp only [rA, this]
  | slice a n c =>
    cases a with
    | none => rfl
    | some a =>
      have := ha _ (memB_spec h)
      show Value.slice (bif (ρ a.block).nil then (ρ a.block).alt else some (rA ρ a)) n ((ρ a.block).cap - c) = Value.slice (bif (ρ' a.block).nil then (ρ' a.block).alt else some (rA ρ' a)) n ((ρ' a.block).cap - c)
      simp only [rA, this]
  | iface t u => cases u <;> rfl
  | _ => rfl
theorem allNC_spec {al : List Nat} : ∀ {l : List Value}, allNC al l = true → ∀ v ∈ l, NBc al v
  | u :: l, h, v, hv => by
    simp only [allNC, Bool.and_eq_true] at h
    rcases List.mem_cons.1 hv with e | e
    · subst e; exact nbC_NBc h.1
    · exact allNC_spec h.2 v e
theorem nb1_r1 {al : List Nat} {v : Value} (h : nb1 al v = true) {ρ ρ' : (Nat → Pl)} (ha : agr al ρ ρ') : r1 ρ v = r1 ρ' v := by
  unfold nb1 at h
  split at h
  · rename_i cs
    show Value.agg (rL ρ cs.toList).toArray = .agg (rL ρ' cs.toList).toArray
    rw [rL_agr ha (allNC_spec h)]
  · rename_i f x c
    show Value.func f x (rL ρ c.toList).toArray = .func f x (rL ρ' c.toList).toArray
    rw [rL_agr ha (allNC_spec h)]
  · rename_i h1 h2
    have := nbC_NBc h ρ ρ' ha
    unfold r1
    split
    · exact absurd rfl (h1 _)
    · exact absurd rfl (h2 _ _ _)
    · exact this
theorem allN1_spec {al : List Nat} {ρ ρ' : (Nat → Pl)} (ha : agr al ρ ρ') : ∀ {l : List Value}, allN1 al l = true → l.map (r1 ρ) = l.map (r1 ρ')
  | [], _ => rfl
  | u :: l, h => by
    simp only [allN1, Bool.and_eq_true] at h
    rw [List.map_cons, List.map_cons, nb1_r1 h.1 ha, allN1_spec ha h.2]
theorem nbV_NB {al : List Nat} {v : Value} (h : nbV al v = true) : NB al v := by
  intro ρ ρ' ha
  unfold nbV at h
  split at h
  · rename_i vs
    show Value.tuple (vs.toList.map (r1 ρ)).toArray = .tuple (vs.toList.map (r1 ρ')).toArray
    rw [allN1_spec ha h]
  · rename_i h1
    have := nb1_r1 h ha
    unfold rV
    split
    · exact absurd rfl (h1 _)
    · exact this
section
variable {P : Program}
def Enters (P : Program) (g : FuncId) : Prop := ∀ (args : Array Value) (w : World), (callFunc g args).run P w = .ok (.enter g args) w
theorem enters {g : FuncId} {fn : Func} (hf : P.funcs[g]? = some fn) (hname : (fn.name == "runtime.NumGoroutine") = false) (hb : fn.body.isNone = false) : Enters P g := fun args w => by
  have h1 : fn.name ≠ "runtime.NumGoroutine" := by simpa using hname
  have h2 : ¬ fn.body = none := by intro e; rw [e] at hb; cases hb
  simp [callFunc, hf, h1, h2]
def evs (s : St) : List Operand → Option (List Value)
  | [] => some []
  | x :: r => match ev s x, evs s r with | some v, some l => some (v :: l) | _, _ => none
theorem evs_eval {B : Nat} {s : St} {L : List Operand} {σ : List (Nat × Box)} {ρ : (Nat → Pl)} {a : Act} {w : World} (h : Met B ρ ⟨rq s L, σ⟩ a w) : ∀ {l : List Operand} {vs : List Value}, (∀ x ∈ l, x ∈ L) → evs s l = some vs → l.map a.eval = vs.map (rV ρ)
  | [], vs, _, he => by cases he; rfl
  | x :: r, vs, hl, he => by
    simp only [evs] at he
    split at he
    · rename_i v l hv hr
      cases he
      rw [List.map_cons, List.map_cons, ev_eval h (hl x List.mem_cons_self) hv, evs_eval h (fun y hy => hl y (List.mem_cons_of_mem _ hy)) hr]
    · cases he
theorem evs_nb {s : St} {L : List Operand} {σ : List (Nat × Box)} {al : List Nat} (h : RNB al ⟨rq s L, σ⟩) : ∀ {l : List Operand} {vs : List Value}, (∀ x ∈ l, x ∈ L) → evs s l = some vs → ∀ v ∈ vs, NB al v
  | [], vs, _, he, v, hv => by cases he; cases hv
  | x :: r, vs, hl, he, v, hv => by
    simp only [evs] at he
    split at he
    · rename_i u l hu hr
      cases he
      rcases List.mem_cons.1 hv with e | e
      · subst e; exact ev_nb h (hl x List.mem_cons_self) hu
      · exact evs_nb h (fun y hy => hl y (List.mem_cons_of_mem _ hy)) hr v e
    · cases he
theorem exec_call {o : Oper} {c : Call} {g : FuncId} (ho : o.op = .call c) (hc : c.callee = .value (.func g)) (a : Act) (w : World) : (execOp a.eval o).run P w = (callFunc g (c.args.toList.map a.eval).toArray).run P w := by
  have : (c.args.map a.eval) = (c.args.toList.map a.eval).toArray := by rw [← Array.toList_map, Array.toArray_toList]
  unfold execOp
  simp only [ho, resolve, hc, this, Act.eval, Deferred.ofValue, Sem.run_bind, Sem.run_pure, Result.andThen_ok, invoke]
  simp
theorem AOk.callG2 {s : St} {o : Oper} {c : Call} {g : FuncId} {vs : List Value} {σ : List (Nat × Box)} {p : Plan} (hent : Enters P g) (ho : o.op = .call c) (hc : c.callee = .value (.func g)) (hargs : evs s c.args.toList = some vs)
    (hσ : ∀ n b, (n, b) ∈ σ → lk s.σ n = some b) (hup : ∀ n b, (n, b) ∈ p.up → ∃ b0, (n, b0) ∈ σ ∧ kindOK b0 b = true) (hdist : p.nw = [] ∨ ∀ n b, (n, b) ∈ p.up → b = .gone) (hnw : ∀ n b, (n, b) ∈ p.nw → n ∉ s.al)
    (hnb : ∀ al, (∀ v ∈ vs, NB al v) → (∀ n b, (n, b) ∈ σ → n ∈ al ∧ ∀ v ∈ b.cells, NBc al v) → PlanNB al p)
    (h : ∀ (B : Nat) (ρ : (Nat → Pl)) (w : World) (al : List Nat), B ≤ w.heap.size → (∀ n b, (n, b) ∈ σ → BoxOK B ρ w n b) → (∀ v ∈ vs, NB al v) → (∀ n b, (n, b) ∈ σ → n ∈ al ∧ ∀ v ∈ b.cells, NBc al v) → (∀ n b, (n, b) ∈ p.nw → n ∉ al) → (∀ n m b b', (n, b) ∈ σ → (m, b') ∈ σ → n ≠ m → b.wr (ρ n) → ¬ b'.hit (ρ m) (ρ n).b) →
      Calls P g (vs.map (rV ρ)).toArray w (fun e w' => ∃ ρ', e = .returned (rV ρ' p.v) ∧ Eff B ρ w p ρ' w')) : AOk P s o ⟨rq s c.args.toList, σ⟩ p := by
  refine ⟨fun B => .of (fun al hr => hnb al (evs_nb hr (fun x hx => hx) hargs) hr.σ) (fun ρ a w al hm hr hfr K Q hK => .inl ?_), ⟨fun t v h => rq_in h, hσ⟩, hup, hdist, hnw⟩
  have hC := h B ρ w al hm.hB hm.σ (evs_nb hr (fun x hx => hx) hargs) hr.σ hfr hm.ap
  unfold Oper.wp
  rw [exec_call ho hc, evs_eval hm (fun x hx => hx) hargs, hent]
  show Calls P g _ w _
  refine hC.mono fun e w' he => ?_
  obtain ⟨ρ', rfl, heff⟩ := he
  exact hK ρ' w' heff
theorem AOk.callH {s : St} {o : Oper} {c : Call} {g : FuncId} {vs : List Value} {σ : List (Nat × Box)} {p : Plan} (hent : Enters P g) (ho : o.op = .call c) (hc : c.callee = .value (.func g)) (hargs : evs s c.args.toList = some vs)
    (hσ : ∀ n b, (n, b) ∈ σ → lk s.σ n = some b) (hup : ∀ n b, (n, b) ∈ p.up → ∃ b0, (n, b0) ∈ σ ∧ kindOK b0 b = true) (hdist : p.nw = [] ∨ ∀ n b, (n, b) ∈ p.up → b = .gone) (hnw : ∀ n b, (n, b) ∈ p.nw → n ∉ s.al)
    (hnb : ∀ al, (∀ v ∈ vs, NB al v) → (∀ n b, (n, b) ∈ σ → n ∈ al ∧ ∀ v ∈ b.cells, NBc al v) → PlanNB al p)
    (h : ∀ (B : Nat) (ρ : (Nat → Pl)) (w : World) (al : List Nat), B ≤ w.heap.size → (∀ n b, (n, b) ∈ σ → BoxOK B ρ w n b) → (∀ v ∈ vs, NB al v) → (∀ n b, (n, b) ∈ σ → n ∈ al ∧ ∀ v ∈ b.cells, NBc al v) → (∀ n b, (n, b) ∈ p.nw → n ∉ al) → ∀ (H : Nat → Prop), (∀ n b, (n, b) ∈ σ → ¬ b.wr (ρ n) → ∀ g, b.hit (ρ n) g → H g) →
      Calls P g (vs.map (rV ρ)).toArray w (fun e w' => ∃ ρ', e = .returned (rV ρ' p.v) ∧ EffH H B ρ w p ρ' w')) : AOk P s o ⟨rq s c.args.toList, σ⟩ p := by
  refine ⟨fun B => ⟨fun al hr => hnb al (evs_nb hr (fun x hx => hx) hargs) hr.σ, fun ρ a w al hm hr hfr H hH K Q hK => .inl ?_⟩, ⟨fun t v h => rq_in h, hσ⟩, hup, hdist, hnw⟩
  have hC := h B ρ w al hm.hB hm.σ (evs_nb hr (fun x hx => hx) hargs) hr.σ hfr H hH
  unfold Oper.wp
  rw [exec_call ho hc, evs_eval hm (fun x hx => hx) hargs, hent]
  show Calls P g _ w _
  refine hC.mono fun e w' he => ?_
  obtain ⟨ρ', rfl, heff⟩ := he
  exact hK ρ' w' heff
theorem AOk.callG {s : St} {o : Oper} {c : Call} {g : FuncId} {vs : List Value} {σ : List (Nat × Box)} {p : Plan} (hent : Enters P g) (ho : o.op = .call c) (hc : c.callee = .value (.func g)) (hargs : evs s c.args.toList = some vs)
    (hσ : ∀ n b, (n, b) ∈ σ → lk s.σ n = some b) (hup : ∀ n b, (n, b) ∈ p.up → ∃ b0, (n, b0) ∈ σ ∧ kindOK b0 b = true) (hdist : p.nw = [] ∨ ∀ n b, (n, b) ∈ p.up → b = .gone) (hnw : ∀ n b, (n, b) ∈ p.nw → n ∉ s.al)
    (hnb : ∀ al, (∀ v ∈ vs, NB al v) → (∀ n b, (n, b) ∈ σ → n ∈ al ∧ ∀ v ∈ b.cells, NBc al v) → PlanNB al p)
    (h : ∀ (B : Nat) (ρ : (Nat → Pl)) (w : World) (al : List Nat), B ≤ w.heap.size → (∀ n b, (n, b) ∈ σ → BoxOK B ρ w n b) → (∀ v ∈ vs, NB al v) → (∀ n b, (n, b) ∈ σ → n ∈ al ∧ ∀ v ∈ b.cells, NBc al v) → (∀ n b, (n, b) ∈ p.nw → n ∉ al) →
      Calls P g (vs.map (rV ρ)).toArray w (fun e w' => ∃ ρ', e = .returned (rV ρ' p.v) ∧ Eff B ρ w p ρ' w')) : AOk P s o ⟨rq s c.args.toList, σ⟩ p :=
  .callG2 hent ho hc hargs hσ hup hdist hnw hnb fun B ρ w al h1 h2 h3 h4 h5 _ => h B ρ w al h1 h2 h3 h4 h5
theorem Eff.below {B : Nat} {ρ : (Nat → Pl)} {w w' : World} (v : Value) (h : Below w.heap.size w w') : Eff B ρ w ⟨v, [], []⟩ ρ w' :=
  ⟨h.os, h.tape, h.output, h.size, fun g hg _ => h.block g hg, fun _ _ => rfl, fun n b hb => no_mem hb, fun n b hb => no_mem hb, fun n b hb => no_mem hb, fun n b m b' hb => no_mem hb⟩
theorem AOk.call {s : St} {o : Oper} {c : Call} {g : FuncId} {vs : List Value} {v : Value} (C : ∀ w, Calls P g vs.toArray w (fun e w' => e = .returned v ∧ Below w.heap.size w w')) (hent : Enters P g) (ho : o.op = .call c) (hc : c.callee = .value (.func g)) (hargs : evs s c.args.toList = some vs)
    (hf : vs.all flatV = true) (hv : flatV v = true) : AOk P s o ⟨rq s c.args.toList, []⟩ ⟨v, [], []⟩ := by
  refine .callG hent ho hc hargs (fun n b h => no_mem h) (fun n b h => no_mem h) (.inl rfl) (fun n b h => no_mem h) (fun al _ _ => .val (NB.flat hv)) fun B ρ w al _ _ _ _ _ => ?_
  rw [map_flat ρ (rV ρ) flatV (fun v hv => rV_flat ρ hv) vs hf]
  refine (C w).mono fun e w' he => ⟨ρ, ?_, Eff.below v he.2⟩
  rw [he.1, rV_flat ρ hv]
theorem AOk.ext {s : St} {o : Oper} {c : Call} {g : FuncId} {vs : List Value} {v : Value} (C : ∀ w, (callFunc g vs.toArray).run P w = .ok (.value v) w) (ho : o.op = .call c) (hc : c.callee = .value (.func g)) (hargs : evs s c.args.toList = some vs)
    (hf : vs.all flatV = true) (hv : flatV v = true) : AOk P s o ⟨rq s c.args.toList, []⟩ ⟨v, [], []⟩ := by
  refine .quiet fun B => ⟨Does.value (fun al _ => NB.flat hv) fun ρ a w hm => ?_, in_none, rfl, rfl⟩
  rw [exec_call ho hc, evs_eval hm (fun x hx => hx) hargs, map_flat ρ (rV ρ) flatV (fun v hv => rV_flat ρ hv) vs hf, C w, rV_flat ρ hv]
theorem aload_run {tb : (List (Nat × TI))} (hT : TbOK P tb) {B : Nat} {s : St} {t : TypeId} {x : Operand} {R : Req} {p : Plan} (h : aload tb s t x = some (R, p)) {ρ : (Nat → Pl)} {a : Act} {w : World} (hm : Met B ρ R a w) : ∃ ad, ev s x = some (.pointer (some ad)) ∧ (loadVar t ⟨(ρ ad.block).b, (ρ ad.block).o + ad.off, none⟩).run P w = .ok (rV ρ p.v) w := by
  unfold aload at h
  split at h
  · rename_i ad hx
    refine ⟨ad, hx, ?_⟩
    split at h
    · rename_i b hb
      split at h
      · rename_i ti hti
        obtain ⟨⟨i, z, hi, hsz, _, _⟩, hag, _⟩ := hT.at_ hti
        cases ha : ti.agg with
        | true =>
          rw [ha, cond_true, frc_eq] at h
          rw [ha] at hag
          cases hc : Nat.beq ((b.cells.drop ad.off).take ti.size).length ti.size with
          | false => rw [hc] at h; cases h
          | true =>
            rw [hc, cond_true, rqK_eq] at h; cases h
            rw [run_loadRow (cs := rL ρ ((b.cells.drop ad.off).take ti.size)) hag hi (by rw [rL_len]; exact hsz.trans (Nat.eq_of_beq_eq_true hc).symm)]
            · rfl
            · intro j v hv
              have : ∃ u, ((b.cells.drop ad.off).take ti.size)[j]? = some u ∧ rC ρ u = v := by
                unfold rL at hv
                rw [List.getElem?_map] at hv
                cases hq : ((b.cells.drop ad.off).take ti.size)[j]? with
                | none => rw [hq] at hv; cases hv
                | some u => rw [hq] at hv; cases hv; exact ⟨u, rfl, rfl⟩
              obtain ⟨u, hu, rfl⟩ := this
              rw [List.getElem?_take] at hu
              split at hu
              · rw [List.getElem?_drop] at hu
                rw [Nat.add_assoc]
                exact ((hm.σ ad.block b List.mem_cons_self).cell hu).2
              · cases hu
        | false =>
          rw [ha, cond_false] at h
          rw [ha] at hag
          split at h
          · rename_i v hv
            cases hc : oneC v with
            | false => rw [hc] at h; cases h
            | true =>
              rw [hc, cond_true, rqK_eq] at h; cases h
              rw [run_loadOne hag ((hm.σ ad.block b List.mem_cons_self).cell hv).2, rV_one ρ hc]
          · cases h
      · cases h
    · cases h
  · cases h
def ares (tb : (List (Nat × TI))) (s : St) : List ResultVar → Option (List Value)
  | [] => some []
  | .tmp t :: r => match lk s.tm t, ares tb s r with | some v, some l => some (v :: l) | _, _ => none
  | .cell t ty :: r => match aload tb s ty (.tmp t), ares tb s r with | some (_, p), some l => some (p.v :: l) | _, _ => none
def resF (tmps : Array Value) (x : ResultVar) : Sem Value :=
  match x with
  | .tmp t => pure (tmps.getD t undef)
  | .cell q t => do loadVar t (← asAddr (tmps.getD q undef))
theorem results_eq (fn : Func) (tmps : Array Value) : results fn tmps = (do let vs ← fn.results.mapM (resF tmps); pure (if h : vs.size = 1 then vs[0] else .tuple vs)) := rfl
theorem ares_run {tb : (List (Nat × TI))} (hT : TbOK P tb) {cx : Cx} {s : St} {ρ : (Nat → Pl)} {a : Act} {w : World} (hs : Sat cx ρ s a w) : ∀ {rs : List ResultVar} {l : List Value}, ares tb s rs = some l →
    (rs.mapM (resF a.tmps)).run P w = .ok (l.map (rV ρ)) w
  | [], l, h => by cases h; rfl
  | .tmp t :: r, l, h => by
    simp only [ares] at h
    split at h
    · rename_i v l' hv hl
      cases h
      have h1 := (hs.tm t v hv).1
      have h2 : a.tmps.getD t undef = rV ρ v := by rw [Array.getD_eq_getD_getElem?, h1]; rfl
      have h3 := ares_run hT hs hl
      rw [List.mapM_cons]
      simp only [Sem.run_bind, Sem.run_pure, Result.andThen_ok, resF, h2, List.map_cons, h3]
    · cases h
  | .cell t ty :: r, l, h => by
    simp only [ares] at h
    split at h
    · rename_i R p l' hp hl
      cases h
      obtain ⟨hd, hin, _, _⟩ := aload_does hT (B := cx.B) (o := ⟨none, .load ty (.tmp t), 0, "", #[], none⟩) rfl hp
      obtain ⟨ad, hx, hrun⟩ := aload_run hT hp (hs.met hin)
      have h1 := (hs.tm t _ hx).1
      have h2 : a.tmps.getD t undef = .pointer (some ⟨(ρ ad.block).b, (ρ ad.block).o + ad.off, none⟩) := by rw [Array.getD_eq_getD_getElem?, h1]; rfl
      have h3 := ares_run hT hs hl
      rw [List.mapM_cons]
      simp only [Sem.run_bind, Sem.run_pure, Result.andThen_ok, resF, h2, asAddr, hrun, List.map_cons, h3]
    · cases h
def resV : List Value → Value
  | [v] => v
  | l => .tuple l.toArray
def noTup : List Value → Bool
  | [] => true
  | v :: l => (match v with | .tuple _ => false | _ => true) && noTup l
theorem noTup_map (ρ : (Nat → Pl)) : ∀ {l : List Value}, noTup l = true → l.map (rV ρ) = l.map (r1 ρ)
  | [], _ => rfl
  | v :: l, h => by
    simp only [noTup, Bool.and_eq_true] at h
    rw [List.map_cons, List.map_cons, rV_r1 ρ h.1, noTup_map ρ h.2]
theorem resV_run (ρ : (Nat → Pl)) : ∀ {l : List Value}, noTup l = true → (if h : (l.map (rV ρ)).toArray.size = 1 then (l.map (rV ρ)).toArray[0] else .tuple (l.map (rV ρ)).toArray) = rV ρ (resV l)
  | [], _ => rfl
  | [v], _ => rfl
  | v :: u :: l, h => by
    rw [dif_neg (by simp)]
    rw [noTup_map ρ h]; rfl
theorem results_run {tb : (List (Nat × TI))} (hT : TbOK P tb) {cx : Cx} {s : St} {ρ : (Nat → Pl)} {a : Act} {w : World} {fn : Func} {l : List Value} (hs : Sat cx ρ s a w) (h : ares tb s fn.results.toList = some l) (hn : noTup l = true) : (results fn a.tmps).run P w = .ok (rV ρ (resV l)) w := by
  rw [results_eq, Array.mapM_eq_mapM_toList, ← resV_run ρ hn]
  have := ares_run hT hs h
  simp only [Sem.run_bind, map_eq_pure_bind, this, Result.andThen_ok, Sem.run_pure]
def Fin (tb : (List (Nat × TI))) (rs : List ResultVar) (T : Value → St → Prop) : Exit → St → Prop
  | .normal, s => ∃ l, ares tb s rs = some l ∧ noTup l = true ∧ T (resV l) s
  | .ret, s => ∃ l, ares tb s rs = some l ∧ noTup l = true ∧ T (resV l) s
  | _, _ => False
def tmOf : List Value → Nat → List (Nat × Value)
  | [], _ => []
  | v :: r, i => (i, v) :: tmOf r (i + 1)
theorem tmOf_lk : ∀ {l : List Value} {i t : Nat} {v : Value}, lk (tmOf l i) t = some v → i ≤ t ∧ l[t - i]? = some v
  | u :: r, i, t, v, h => by
    rw [tmOf, lk_cons] at h
    split at h
    · rename_i e; subst e; cases h; exact ⟨Nat.le_refl _, by simp⟩
    · rename_i hne
      obtain ⟨h1, h2⟩ := tmOf_lk h
      refine ⟨by omega, ?_⟩
      rw [show t - i = (t - (i + 1)) + 1 by omega]; simpa using h2
def alOf : Nat → List Nat
  | 0 => []
  | n + 1 => n :: alOf n
theorem alOf_mem : ∀ {n m : Nat}, m ∈ alOf n ↔ m < n
  | 0, m => by simp [alOf]
  | n + 1, m => by
    rw [alOf, List.mem_cons, alOf_mem]; omega
theorem calls_fin {tb : (List (Nat × TI))} (hT : TbOK P tb) {f : FuncId} {fn : Func} {c : Code} {I : Nat} (hm : P.follows .mixedOrders = true) (hf : P.funcs[f]? = some fn) (hb : fn.body = some c) (vs : List Value) (σ : List (Nat × Box)) (ρ0 : (Nat → Pl)) (w : World) (nt : Nat)
    (tm : List (Nat × Value)) (htm : tmOf vs 0 = tm) (hnt : vs.length + (fn.ntmps - vs.length) = nt) (hd : dcode nt c = true) (al : List Nat) (hal : alOf I = al) (hnb : allN1 (alOf I) vs = true) (htu : noTup vs = true)
    (hbx : ∀ n b, lk σ n = some b → n < I ∧ BoxOK w.heap.size ρ0 w n b ∧ (∀ v ∈ b.cells, NBc (alOf I) v) ∧ ¬ b.wr (ρ0 n))
    (T : Value → St → Prop) (h : aCode P tb I c ⟨tm, σ, al, nt⟩ (Fin tb fn.results.toList T)) :
    Calls P f (vs.map (rV ρ0)).toArray w (fun e w' => ∃ v s ρ a, T v s ∧ e = .returned (rV ρ v) ∧ Sat ⟨w.heap.size, w, ρ0, I⟩ ρ s a w') := by
  subst htm hal
  refine calls_of_wp hf hb ?_
  have hvn : ∀ v ∈ vs, NB (alOf I) v := by
    have key : ∀ {l : List Value}, allN1 (alOf I) l = true → noTup l = true → ∀ v ∈ l, NB (alOf I) v := by
      intro l
      induction l with
      | nil => intro _ _ v hv; cases hv
      | cons u l ih =>
        intro h1 h2 v hv
        simp only [allN1, noTup, Bool.and_eq_true] at h1 h2
        rcases List.mem_cons.1 hv with e | e
        · subst e
          intro ρ ρ' ha
          rw [rV_r1 ρ h2.1, rV_r1 ρ' h2.1]
          exact nb1_r1 h1.1 ha
        · exact ih h1.2 h2.2 v e
    exact key hnb htu
  have hsat : Sat ⟨w.heap.size, w, ρ0, I⟩ ρ0 ⟨tmOf vs 0, σ, alOf I, nt⟩ { tmps := (vs.map (rV ρ0)).toArray ++ Array.replicate (fn.ntmps - (vs.map (rV ρ0)).toArray.size) undef, defers := [] } w := by
    refine ⟨rfl, by simp; omega, Below.refl _ _, Nat.le_refl _, fun _ _ => rfl, fun n hn => alOf_mem.2 hn, fun t v hv => ?_, fun n b hb => ?_, fun n m b b' hb _ _ hw => absurd hw (hbx n b hb).2.2.2⟩
    · obtain ⟨_, h2⟩ := tmOf_lk hv
      rw [Nat.sub_zero] at h2
      refine ⟨?_, hvn v (List.mem_of_getElem? h2)⟩
      have hlt : t < vs.length := (List.getElem?_eq_some_iff.1 h2).1
      rw [Array.getElem?_append_left (by simpa using hlt)]
      rw [List.getElem?_toArray, List.getElem?_map, h2]; rfl
    · obtain ⟨h1, h2, h3, _⟩ := hbx n b hb
      exact ⟨h2, alOf_mem.2 h1, h3⟩
  refine wp_imp (aCode_sound hT hm c rfl h hd hsat) fun e a w' hp => ?_
  obtain ⟨ρ, s, hq, hnt', hs⟩ := hp
  cases e with
  | normal =>
    obtain ⟨l, hl, hn, hTT⟩ := hq
    exact ⟨hs.df, _, results_run hT hs hl hn, _, s, ρ, a, hTT, rfl, hs⟩
  | ret =>
    obtain ⟨l, hl, hn, hTT⟩ := hq
    exact ⟨hs.df, _, results_run hT hs hl hn, _, s, ρ, a, hTT, rfl, hs⟩
  | _ => exact hq.elim
theorem calls_flat {tb : (List (Nat × TI))} (hT : TbOK P tb) {f : FuncId} {fn : Func} {c : Code} (hm : P.follows .mixedOrders = true) (hf : P.funcs[f]? = some fn) (hb : fn.body = some c) (vs : List Value) (w : World) (nt : Nat)
    (tm : List (Nat × Value)) (htm : tmOf vs 0 = tm) (hnt : vs.length + (fn.ntmps - vs.length) = nt) (hd : dcode nt c = true) (hnb : allN1 [] vs = true) (htu : noTup vs = true) (hfl : vs.all flatV = true)
    (v : Value) (hv : flatV v = true) (h : aCode P tb 0 c ⟨tm, [], [], nt⟩ (Fin tb fn.results.toList fun u _ => u = v)) :
    Calls P f vs.toArray w (fun e w' => e = .returned v ∧ Below w.heap.size w w') := by
  have := calls_fin (I := 0) hT hm hf hb vs [] (fun _ => (pl4 0 0 0 false)) w nt tm htm hnt hd [] rfl hnb htu (fun n b hb => by cases hb) _ h
  rw [map_flat (fun _ => (pl4 0 0 0 false)) (rV (fun _ => (pl4 0 0 0 false))) flatV (fun v hv => rV_flat _ hv) vs hfl] at this
  refine this.mono fun e w' he => ?_
  obtain ⟨u, s, ρ, a, rfl, rfl, hs⟩ := he
  exact ⟨by rw [rV_flat ρ hv], hs.bl⟩
end
end En
end Go.Proofs.YtbageimconenlaaGreat
