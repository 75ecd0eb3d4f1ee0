/- The engine: one step at a time. No program in sight. -/
import Derived.Test.YtbageimconenlaaGreatE8
namespace Go.Proofs.YtbageimconenlaaGreat
open Go.RowKit
set_option linter.unusedVariables false
namespace En
section
variable {P : Program} {tb : (List (Nat × TI))}
def gkO (ops : Array Oper) (s : St) (o : Oper) : Option Bool :=
  match o.guard with
  | none => some false
  | some (j, want) =>
    match (ops[j]?).bind (·.dst) with
    | some t => match lk s.tm t with
      | some (.bool b) => (match b, want with | true, true => some false | false, false => some false | true, false => some true | false, true => some true)
      | some _ => some true
      | none => none
    | none => none
def gbO (ops : Array Oper) (s : St) (o : Oper) : Option Bool :=
  match o.guard with
  | none => none
  | some (j, want) =>
    match (ops[j]?).bind (·.dst) with
    | some t => match lk s.tm t with
      | some (.bool b) => some b
      | _ => none
    | none => none
def stepO (P : Program) (tb : (List (Nat × TI))) (ops : Array Oper) (s : St) (o : Oper) : Option (Req × Plan × Bool × St) :=
  match gkO ops s o with
  | some false => match aop P tb s o with
    | some (R, p) => appK s o.dst p fun s' => some (R, p, false, s')
    | none => none
  | some true => appK s o.dst nowt fun s' => some (⟨[], []⟩, nowt, true, s')
  | none => none
def appO (s : St) (d : Option Tmp) (p : Plan) : Option St := appK s d p fun s' => some s'
theorem aRun_exec {ops : Array Oper} {o : Oper} {r : List Oper} {i : Nat} {s : St} {acc : List Ent} {K : St → List Ent → Prop} (hg : gkO ops s o = some false)
    (h : aOp P tb s o fun R p => appK s o.dst p fun s' => aRun P tb ops r (i + 1) s' (⟨i, o, R, p, false⟩ :: acc) K) : aRun P tb ops (o :: r) i s acc K := by
  unfold gkO at hg
  unfold aRun
  cases hgd : o.guard with
  | none => exact h
  | some jw =>
    obtain ⟨j, want⟩ := jw
    rw [hgd] at hg
    simp only at hg ⊢
    cases ht : (ops[j]?).bind (·.dst) with
    | none => rw [ht] at hg; cases hg
    | some t =>
      rw [ht] at hg
      simp only at hg ⊢
      cases hv : lk s.tm t with
      | none => rw [hv] at hg; cases hg
      | some v =>
        rw [hv] at hg
        cases v with
        | bool b =>
          cases b <;> cases want <;> first | (cases hg; done) | exact ⟨fun _ => h, fun h => Bool.noConfusion h⟩ | exact ⟨fun h => Bool.noConfusion h, fun _ => h⟩
        | _ => cases hg
theorem aRun_skip {ops : Array Oper} {o : Oper} {r : List Oper} {i : Nat} {s : St} {acc : List Ent} {K : St → List Ent → Prop} (hg : gkO ops s o = some true)
    (h : appK s o.dst nowt fun s' => aRun P tb ops r (i + 1) s' (⟨i, o, ⟨[], []⟩, nowt, true⟩ :: acc) K) : aRun P tb ops (o :: r) i s acc K := by
  unfold gkO at hg
  unfold aRun
  cases hgd : o.guard with
  | none => rw [hgd] at hg; cases hg
  | some jw =>
    obtain ⟨j, want⟩ := jw
    rw [hgd] at hg
    simp only at hg ⊢
    cases ht : (ops[j]?).bind (·.dst) with
    | none => rw [ht] at hg; cases hg
    | some t =>
      rw [ht] at hg
      simp only at hg ⊢
      cases hv : lk s.tm t with
      | none => rw [hv] at hg; cases hg
      | some v =>
        rw [hv] at hg
        cases v with
        | bool b =>
          cases b <;> cases want <;> first | (cases hg; done) | exact ⟨fun _ => h, fun h => Bool.noConfusion h⟩ | exact ⟨fun h => Bool.noConfusion h, fun _ => h⟩
        | _ => exact h
theorem aOp_auto {s : St} {o : Oper} {k : Req → Plan → Prop} {R : Req} {p : Plan} (h : aop P tb s o = some (R, p)) (hk : k R p) : aOp P tb s o k := by
  unfold aOp
  cases hs : sure o.op with
  | true => rw [cond_true, h]; exact hk
  | false => exact .auto h hk
theorem aRun_auto {ops : Array Oper} {o : Oper} {r : List Oper} {i : Nat} {s s' : St} {acc : List Ent} {K : St → List Ent → Prop} {R : Req} {p : Plan} {sk : Bool} (h : stepO P tb ops s o = some (R, p, sk, s'))
    (hk : aRun P tb ops r (i + 1) s' (⟨i, o, R, p, sk⟩ :: acc) K) : aRun P tb ops (o :: r) i s acc K := by
  unfold stepO at h
  split at h
  · rename_i hg
    split at h
    · rename_i R' p' hop
      rw [appK_eq] at h
      cases h
      refine aRun_exec hg (aOp_auto hop ?_)
      rw [appK_eq]; exact hk
    · cases h
  · rename_i hg
    rw [appK_eq] at h
    cases h
    refine aRun_skip hg ?_
    rw [appK_eq]; exact hk
  · cases h
theorem aRun_man {ops : Array Oper} {o : Oper} {r : List Oper} {i : Nat} {s s' : St} {acc : List Ent} {K : St → List Ent → Prop} {R : Req} {p : Plan} (hs : sure o.op = false) (h : AOk P s o R p) (hg : gkO ops s o = some false) (ha : appO s o.dst p = some s')
    (hk : aRun P tb ops r (i + 1) s' (⟨i, o, R, p, false⟩ :: acc) K) : aRun P tb ops (o :: r) i s acc K := by
  unfold appO at ha
  rw [appK_eq] at ha
  cases ha
  refine aRun_exec hg ?_
  unfold aOp
  rw [hs, cond_false]
  refine .man h ?_
  rw [appK_eq]; exact hk
theorem aOp_mono {s : St} {o : Oper} {k k' : Req → Plan → Prop} (hk : ∀ R p, k R p → k' R p) (h : aOp P tb s o k) : aOp P tb s o k' := by
  unfold aOp at h ⊢
  cases hs : sure o.op with
  | true =>
    rw [hs, cond_true] at h
    rw [cond_true]
    split at h
    · exact hk _ _ h
    · exact h
  | false =>
    rw [hs, cond_false] at h
    rw [cond_false]
    rcases h with ⟨h1, h2⟩ | ⟨h1, h2⟩
    · exact .auto h1 (hk _ _ h2)
    · exact .man h1 (hk _ _ h2)
theorem aRun_mono {ops : Array Oper} {K K' : St → List Ent → Prop} (hK : ∀ s acc, K s acc → K' s acc) : ∀ {l : List Oper} {i : Nat} {s : St} {acc : List Ent}, aRun P tb ops l i s acc K → aRun P tb ops l i s acc K'
  | [], i, s, acc, h => hK s acc h
  | o :: r, i, s, acc, h => by
    have he : (aOp P tb s o fun R p => appK s o.dst p fun s' => aRun P tb ops r (i + 1) s' (⟨i, o, R, p, false⟩ :: acc) K) → (aOp P tb s o fun R p => appK s o.dst p fun s' => aRun P tb ops r (i + 1) s' (⟨i, o, R, p, false⟩ :: acc) K') :=
      aOp_mono fun R p h => by
        rw [appK_eq] at h ⊢
        exact aRun_mono hK h
    have hs : (appK s o.dst nowt fun s' => aRun P tb ops r (i + 1) s' (⟨i, o, ⟨[], []⟩, nowt, true⟩ :: acc) K) → (appK s o.dst nowt fun s' => aRun P tb ops r (i + 1) s' (⟨i, o, ⟨[], []⟩, nowt, true⟩ :: acc) K') := fun h => by
      rw [appK_eq] at h ⊢
      exact aRun_mono hK h
    unfold aRun at h ⊢
    cases hgd : o.guard with
    | none => rw [hgd] at h; exact he h
    | some jw =>
      obtain ⟨j, want⟩ := jw
      rw [hgd] at h
      simp only at h ⊢
      split at h
      · split at h
        · cases want with
          | true => exact ⟨fun hb => he (h.t hb), fun hb => hs (h.f hb)⟩
          | false => exact ⟨fun hb => hs (h.t hb), fun hb => he (h.f hb)⟩
        · exact hs h
        · exact h
      · exact h
theorem sQ_mono {N N' : St → Prop} {Q Q' : Exit → St → Prop} (hN : ∀ s, N s → N' s) (hQ : ∀ e s, Q e s → Q' e s) (e : Exit) (s : St) (h : sQ N Q e s) : sQ N' Q' e s := by
  cases e <;> first | exact hN s h | exact hQ _ s h
theorem bQ_mono {id : Nat} {Q Q' : Exit → St → Prop} (hQ : ∀ e s, Q e s → Q' e s) (e : Exit) (s : St) (h : bQ id Q e s) : bQ id Q' e s := by
  cases e with
  | exit j =>
    unfold bQ at h ⊢
    cases hj : Nat.beq j id with
    | true => simp only [hj, cond_true] at h ⊢; exact hQ _ s h
    | false => simp only [hj, cond_false] at h ⊢; exact hQ _ s h
  | _ => exact hQ _ s h
theorem aCode_mono {I : Nat} : ∀ (c : Code) {s : St} {Q Q' : Exit → St → Prop}, (∀ e s, Q e s → Q' e s) → aCode P tb I c s Q → aCode P tb I c s Q'
  | .skip, s, Q, Q', hQ, h => hQ _ _ h
  | .region id ops draw, s, Q, Q', hQ, h => aRun_mono (fun s acc h => by
      cases draw with
      | true => exact ⟨h.c, hQ _ _ h.x⟩
      | false => exact hQ _ _ h) h
  | .seq x y, s, Q, Q', hQ, h => aCode_mono x (sQ_mono (fun s h => h.mono fun s h => aCode_mono y hQ h) hQ) h
  | .cond c x y, s, Q, Q', hQ, h => by
    unfold aCode at h ⊢
    split at h
    · exact ⟨fun hb => aCode_mono x hQ (h.t hb), fun hb => aCode_mono y hQ (h.f hb)⟩
    · exact h
  | .block id c, s, Q, Q', hQ, h => aCode_mono c (bQ_mono hQ) h
  | .loop c, s, Q, Q', hQ, h => by
    obtain ⟨Inv, h1, h3⟩ := h
    exact ⟨Inv, h1, fun m s hi => aCode_mono c (sQ_mono (fun s h => h) hQ) (h3 m s hi)⟩
  | .exit id, s, Q, Q', hQ, h => hQ _ _ h
  | .ret, s, Q, Q', hQ, h => hQ _ _ h
  | .rangeFunc _ _ _ _, s, Q, Q', hQ, h => h.elim
  | .scope _, s, Q, Q', hQ, h => h.elim
  | .label _, s, Q, Q', hQ, h => h.elim
  | .goto _, s, Q, Q', hQ, h => h.elim
  | .refuse _, s, Q, Q', hQ, h => h.elim
structure AR (P : Program) (tb : (List (Nat × TI))) (ops : Array Oper) (l : List Oper) (i : Nat) (s : St) (acc : List Ent) (K : St → List Ent → Prop) : Prop where
  out : aRun P tb ops l i s acc K
structure AC (P : Program) (tb : (List (Nat × TI))) (I : Nat) (c : Code) (s : St) (Q : Exit → St → Prop) : Prop where
  out : aCode P tb I c s Q
structure SQ (N : St → Prop) (Q : Exit → St → Prop) (e : Exit) (s : St) : Prop where
  out : sQ N Q e s
structure BQ (id : Nat) (Q : Exit → St → Prop) (e : Exit) (s : St) : Prop where
  out : bQ id Q e s
structure KF (Q : Exit → St → Prop) (s : St) (acc : List Ent) : Prop where
  out : Q .normal s
structure KT (ops : Array Oper) (Q : Exit → St → Prop) (s : St) (acc : List Ent) : Prop where
  c : chk ops acc.reverse = true
  out : Q .normal s
structure FQ (tb : (List (Nat × TI))) (rs : List ResultVar) (T : Value → St → Prop) (e : Exit) (s : St) : Prop where
  out : Fin tb rs T e s
section
variable {ops : Array Oper} {o : Oper} {r : List Oper} {i : Nat} {s s' : St} {acc : List Ent} {K : St → List Ent → Prop} {R : Req} {p : Plan}
theorem AR.auto {sk : Bool} (h : stepO P tb ops s o = some (R, p, sk, s')) (hk : AR P tb ops r (i + 1) s' (⟨i, o, R, p, sk⟩ :: acc) K) : AR P tb ops (o :: r) i s acc K := ⟨aRun_auto h hk.out⟩
theorem AR.man (h : AOk P s o R p) (hs : sure o.op = false) (hg : gkO ops s o = some false) (ha : appO s o.dst p = some s') (hk : AR P tb ops r (i + 1) s' (⟨i, o, R, p, false⟩ :: acc) K) : AR P tb ops (o :: r) i s acc K := ⟨aRun_man hs h hg ha hk.out⟩
theorem AR.split {b : Bool} (hg : gbO ops s o = some b) (ht : b = true → AR P tb ops (o :: r) i s acc K) (hf : b = false → AR P tb ops (o :: r) i s acc K) : AR P tb ops (o :: r) i s acc K := by
  cases b with
  | true => exact ht rfl
  | false => exact hf rfl
theorem AR.nil (h : K s acc) : AR P tb ops [] i s acc K := ⟨h⟩
end
section
variable {I : Nat} {s : St} {Q : Exit → St → Prop}
theorem AC.regF {id : Nat} {ops : Array Oper} (h : AR P tb ops ops.toList 0 s [] (KF Q)) : AC P tb I (.region id ops false) s Q := ⟨aRun_mono (fun s acc h => h.out) h.out⟩
theorem AC.regT {id : Nat} {ops : Array Oper} (h : AR P tb ops ops.toList 0 s [] (KT ops Q)) : AC P tb I (.region id ops true) s Q := ⟨aRun_mono (fun s acc h => ⟨h.c, h.out⟩) h.out⟩
theorem AC.seq {a b : Code} (h : AC P tb I a s (SQ (fun s' => AC P tb I b s' Q) Q)) : AC P tb I (.seq a b) s Q :=
  ⟨aCode_mono a (fun e s h => sQ_mono (fun s h => RenS.of Ren.refl h.out) (fun _ _ h => h) e s h.out) h.out⟩
theorem AC.seqR {a b : Code} (h : AC P tb I a s (SQ (fun s' => RenS I s' fun s2 => AC P tb I b s2 Q) Q)) : AC P tb I (.seq a b) s Q :=
  ⟨aCode_mono a (fun e s h => sQ_mono (fun s h => h.mono fun s h => h.out) (fun _ _ h => h) e s h.out) h.out⟩
theorem SQ.normal {N : St → Prop} (h : N s) : SQ N Q .normal s := ⟨h⟩
theorem SQ.ret {N : St → Prop} (h : Q .ret s) : SQ N Q .ret s := ⟨h⟩
theorem SQ.exit {N : St → Prop} {j : Nat} (h : Q (.exit j) s) : SQ N Q (.exit j) s := ⟨h⟩
theorem AC.block {id : Nat} {c : Code} (h : AC P tb I c s (BQ id Q)) : AC P tb I (.block id c) s Q := ⟨aCode_mono c (fun e s h => h.out) h.out⟩
theorem BQ.normal {id : Nat} (h : Q .normal s) : BQ id Q .normal s := ⟨h⟩
theorem BQ.ret {id : Nat} (h : Q .ret s) : BQ id Q .ret s := ⟨h⟩
theorem BQ.here {id : Nat} (h : Q .normal s) : BQ id Q (.exit id) s := ⟨by unfold bQ; simp only [Nat.beq_refl, cond_true]; exact h⟩
theorem BQ.there {id j : Nat} (hj : Nat.beq j id = false) (h : Q (.exit j) s) : BQ id Q (.exit j) s := ⟨by unfold bQ; simp only [hj, cond_false]; exact h⟩
theorem AC.ret (h : Q .ret s) : AC P tb I .ret s Q := ⟨h⟩
theorem AC.skip (h : Q .normal s) : AC P tb I .skip s Q := ⟨h⟩
theorem AC.exit {id : Nat} (h : Q (.exit id) s) : AC P tb I (.exit id) s Q := ⟨h⟩
theorem AC.condT {c : Operand} {a b : Code} (hc : ev s c = some (.bool true)) (h : AC P tb I a s Q) : AC P tb I (.cond c a b) s Q := ⟨by
  unfold aCode; rw [hc]; exact .T h.out⟩
theorem AC.condF {c : Operand} {a b : Code} (hc : ev s c = some (.bool false)) (h : AC P tb I b s Q) : AC P tb I (.cond c a b) s Q := ⟨by
  unfold aCode; rw [hc]; exact .F h.out⟩
theorem AC.cond {c : Operand} {a b : Code} {x : Bool} (hc : ev s c = some (.bool x)) (ht : x = true → AC P tb I (.cond c a b) s Q) (hf : x = false → AC P tb I (.cond c a b) s Q) : AC P tb I (.cond c a b) s Q := by
  cases x with
  | true => exact ht rfl
  | false => exact hf rfl
theorem AC.loopS {c : Code} (Inv : Nat → St → Prop) (hr : RenS I s fun s0 => ∃ m, Inv m s0) (round : ∀ m s, Inv m s → AC P tb I c s (SQ (fun s' => RenS I s' fun s0' => ∃ m', m' < m ∧ Inv m' s0') Q)) : AC P tb I (.loop c) s Q :=
  ⟨Inv, hr, fun m s hi => aCode_mono c (fun e s h => h.out) (round m s hi).out⟩
theorem AC.loop {c : Code} (Inv : Nat → St → Prop) (m : Nat) (s0 : St) (hr : Ren I s s0) (h0 : Inv m s0) (round : ∀ m s, Inv m s → AC P tb I c s (SQ (fun s' => ∃ m' s0', m' < m ∧ Ren I s' s0' ∧ Inv m' s0') Q)) : AC P tb I (.loop c) s Q :=
  ⟨Inv, RenS.of hr ⟨m, h0⟩, fun m s hi => aCode_mono c (fun e s h => sQ_mono (fun s h => by
    obtain ⟨m', s0', h1, h2, h3⟩ := h
    exact RenS.of h2 ⟨m', h1, h3⟩) (fun _ _ h => h) e s h.out) (round m s hi).out⟩
structure RN (P : Program) (tb : (List (Nat × TI))) (I : Nat) (c : Code) (Q : Exit → St → Prop) (n : Nat) (s : St) : Prop where
  out : ∀ (M : Nat), n ≤ M → ∃ Inv : Nat → St → Prop, Inv n s ∧ ∀ m s, Inv m s → aCode P tb I c s (sQ (fun s' => ∃ m' s0', m' < m ∧ Ren I s' s0' ∧ Inv m' s0') Q)
theorem RN.step {c : Code} {n : Nat} (h : AC P tb I c s (SQ (fun s' => RN P tb I c Q n s') Q)) : RN P tb I c Q (n + 1) s := by
  refine ⟨fun M hM => ⟨fun m s' => (m = n + 1 ∧ s' = s) ∨ (m ≤ n ∧ ∃ Inv : Nat → St → Prop, Inv m s' ∧ ∀ m s, Inv m s → aCode P tb I c s (sQ (fun s' => ∃ m' s0', m' < m ∧ Ren I s' s0' ∧ Inv m' s0') Q)), .inl ⟨rfl, rfl⟩, fun m s' hi => ?_⟩⟩
  rcases hi with ⟨rfl, rfl⟩ | ⟨hm, Inv, h1, h2⟩
  · refine aCode_mono c (fun e s0 he => sQ_mono (fun s0 hr => ?_) (fun _ _ h => h) e s0 he.out) h.out
    obtain ⟨Inv, h1, h2⟩ := hr.out n (Nat.le_refl _)
    exact ⟨n, s0, Nat.lt_succ_self _, Ren.refl, .inr ⟨Nat.le_refl _, Inv, h1, h2⟩⟩
  · refine aCode_mono c (fun e s0 he => sQ_mono (fun s0 hr => ?_) (fun _ _ h => h) e s0 he) (h2 m s' h1)
    obtain ⟨m', s0', g1, g2, g3⟩ := hr
    exact ⟨m', s0', g1, g2, .inr ⟨by omega, Inv, g3, h2⟩⟩
theorem AC.rounds {c : Code} (n : Nat) (h : RN P tb I c Q n s) : AC P tb I (.loop c) s Q := by
  obtain ⟨Inv, h1, h2⟩ := h.out n (Nat.le_refl _)
  exact ⟨Inv, RenS.of Ren.refl ⟨n, h1⟩, fun m s hi => aCode_mono c (fun e s h => sQ_mono (fun s h => by
    obtain ⟨m', s0', h1, h2, h3⟩ := h
    exact RenS.of h2 ⟨m', h1, h3⟩) (fun _ _ h => h) e s h) (h2 m s hi)⟩
theorem FQ.normal {rs : List ResultVar} {T : Value → St → Prop} {l : List Value} (h1 : ares tb s rs = some l) (h2 : noTup l = true) (h3 : T (resV l) s) : FQ tb rs T .normal s := ⟨⟨l, h1, h2, h3⟩⟩
theorem FQ.ret {rs : List ResultVar} {T : Value → St → Prop} {l : List Value} (h1 : ares tb s rs = some l) (h2 : noTup l = true) (h3 : T (resV l) s) : FQ tb rs T .ret s := ⟨⟨l, h1, h2, h3⟩⟩
end
theorem fun_flat (hT : TbOK P tb) {f : FuncId} {fn : Func} {c : Code} (hm : P.follows .mixedOrders = true) (hf : P.funcs[f]? = some fn) (hb : fn.body = some c) (vs : List Value) (w : World) (nt : Nat)
    (tm : List (Nat × Value)) (htm : tmOf vs 0 = tm) (hnt : vs.length + (fn.ntmps - vs.length) = nt) (hd : dcode nt c = true) (hnb : allN1 [] vs = true) (htu : noTup vs = true) (hfl : vs.all flatV = true)
    (v : Value) (hv : flatV v = true) (h : AC P tb 0 c ⟨tm, [], [], nt⟩ (FQ tb fn.results.toList fun u _ => u = v)) :
    Calls P f vs.toArray w (fun e w' => e = .returned v ∧ Below w.heap.size w w') :=
  calls_flat hT hm hf hb vs w nt tm htm hnt hd hnb htu hfl v hv (aCode_mono c (fun e s h => h.out) h.out)
theorem fun_fin (hT : TbOK P tb) {f : FuncId} {fn : Func} {c : Code} {I : Nat} (hm : P.follows .mixedOrders = true) (hf : P.funcs[f]? = some fn) (hb : fn.body = some c) (vs : List Value) (σ : List (Nat × Box)) (ρ0 : (Nat → Pl)) (w : World) (nt : Nat)
    (tm : List (Nat × Value)) (htm : tmOf vs 0 = tm) (hnt : vs.length + (fn.ntmps - vs.length) = nt) (hd : dcode nt c = true) (al : List Nat) (hal : alOf I = al) (hnb : allN1 (alOf I) vs = true) (htu : noTup vs = true)
    (hbx : ∀ n b, lk σ n = some b → n < I ∧ BoxOK w.heap.size ρ0 w n b ∧ (∀ v ∈ b.cells, NBc (alOf I) v) ∧ ¬ b.wr (ρ0 n))
    (T : Value → St → Prop) (h : AC P tb I c ⟨tm, σ, al, nt⟩ (FQ tb fn.results.toList T)) :
    Calls P f (vs.map (rV ρ0)).toArray w (fun e w' => ∃ v s ρ a, T v s ∧ e = .returned (rV ρ v) ∧ Sat ⟨w.heap.size, w, ρ0, I⟩ ρ s a w') :=
  calls_fin hT hm hf hb vs σ ρ0 w nt tm htm hnt hd al hal hnb htu hbx T (aCode_mono c (fun e s h => h.out) h.out)
end
end En
end Go.Proofs.YtbageimconenlaaGreat
