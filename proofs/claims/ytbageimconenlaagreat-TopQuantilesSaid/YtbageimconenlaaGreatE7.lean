/- The engine: code, carried out by reckoning; what is shown of it holds of every run. No program in sight. -/
import Derived.Test.YtbageimconenlaaGreatEA
namespace Go.Proofs.YtbageimconenlaaGreat
open Go.RowKit
set_option linter.unusedVariables false
namespace En
section
variable {P : Program}
def lenOp (c : Call) : Option (Operand × TypeId) :=
  match c.callee with
  | .builtin .len => match c.args.toList, c.argTypes.toList with | [x], [t] => some (x, t) | _, _ => none
  | _ => none
def isBuiltin (c : Call) : Bool := match c.callee with | .builtin _ => true | _ => false
def alen (tb : (List (Nat × TI))) (s : St) (x : Operand) (t : TypeId) : Option (Req × Plan) :=
  match ev s x, lk tb t with
  | some (.slice ad n c), some ⟨_, _, _, .slice _ _ _⟩ => rqK s.tm [x] fun l => some (⟨l, []⟩, ⟨.int .i64 n, [], []⟩)
  | _, _ => none
theorem rV_slice (ρ : (Nat → Pl)) (ad : Option Addr) (n c : Nat) : ∃ A c', rV ρ (.slice ad n c) = .slice A n c' := by
  cases ad <;> exact ⟨_, _, rfl⟩
theorem alen_does {tb : (List (Nat × TI))} (hT : TbOK P tb) {B : Nat} {s : St} {o : Oper} {c : Call} {x : Operand} {t : TypeId} {R : Req} {p : Plan} (ho : o.op = .call c) (hc : lenOp c = some (x, t)) (h : alen tb s x t = some (R, p)) : Does P B o R p ∧ In R s ∧ p.up = [] ∧ p.nw = [] := by
  unfold alen at h
  split at h
  · rename_i ad n cp g1 g2 g3 g4 es g5 hx hti
    obtain ⟨_, _, hk⟩ := hT.at_ hti
    obtain ⟨ie, z, hu, _⟩ := hk
    rw [rqK_eq] at h
    cases h
    refine ⟨Does.value (fun al _ => NB.flat (by rfl)) fun ρ a w hm => ?_, in_none, rfl, rfl⟩
    have hax := ev_eval hm List.mem_cons_self hx
    obtain ⟨A, c', he⟩ := rV_slice ρ ad n cp
    rw [he] at hax
    unfold lenOp at hc
    split at hc
    · rename_i hcal
      split at hc
      · rename_i y u hargs htys
        cases hc
        have ha : c.args = #[x] := by rw [← Array.toArray_toList (xs := c.args), hargs]
        have ht : c.argTypes = #[t] := by rw [← Array.toArray_toList (xs := c.argTypes), htys]
        unfold execOp
        simp only [ho, resolve, hcal, ha, ht, invoke, builtin, Sem.run_bind, Sem.run_pure, Result.andThen_ok, List.map_toArray, List.map_cons, List.map_nil, hax, Builtin.len_]
        simp [run_underlying hu]
        rfl
      · cases hc
    · cases hc
  · cases h
def aop (P : Program) (tb : (List (Nat × TI))) (s : St) (o : Oper) : Option (Req × Plan) :=
  match o.op with
  | .move x => amove s x
  | .assign x => amove s x
  | .nilCheck x => anil s x
  | .extract x i => aext s x i
  | .alloc t => aalloc tb s t
  | .box t x => abox s t x
  | .load t x => aload tb s t x
  | .store t x y => astore tb s t x y
  | .fieldAddr t x f => afield tb s t x f
  | .build t ps => abuild tb s t ps.toList
  | .indexAddr t x ix => aindex tb s t x ix
  | .buildSlice t len ps => abuildSlice tb s t len ps.toList
  | .call c => match lenOp c with
    | some (x, t) => alen tb s x t
    | none => match appArgs c with
      | some (x, y, t) => aappend tb s x y t
      | none => bif isBuiltin c then aflat P s o else none
  | _ => aflat P s o
structure AOk (P : Program) (s : St) (o : Oper) (R : Req) (p : Plan) : Prop where
  does : ∀ B, Does P B o R p
  inn : In R s
  up : ∀ n b, (n, b) ∈ p.up → ∃ b0, (n, b0) ∈ R.σ ∧ kindOK b0 b = true
  dist : p.nw = [] ∨ ∀ n b, (n, b) ∈ p.up → b = .gone
  nw : ∀ n b, (n, b) ∈ p.nw → n ∉ s.al
theorem AOk.quiet {s : St} {o : Oper} {R : Req} {p : Plan} (h : ∀ B, Does P B o R p ∧ In R s ∧ p.up = [] ∧ p.nw = []) : AOk P s o R p :=
  ⟨fun B => (h B).1, (h 0).2.1, fun n b hb => by rw [(h 0).2.2.1] at hb; exact no_mem hb, .inl (h 0).2.2.2, fun n b hb => by rw [(h 0).2.2.2] at hb; exact no_mem hb⟩
theorem AOk.new {s : St} {o : Oper} {R : Req} {p : Plan} (h : ∀ B, Does P B o R p ∧ In R s ∧ p.up = [] ∧ ∀ n b, (n, b) ∈ p.nw → n ∉ s.al) : AOk P s o R p :=
  ⟨fun B => (h B).1, (h 0).2.1, fun n b hb => by rw [(h 0).2.2.1] at hb; exact no_mem hb, .inr fun n b hb => by rw [(h 0).2.2.1] at hb; exact no_mem hb, (h 0).2.2.2⟩
theorem AOk.flat {s : St} {o : Oper} {R : Req} {p : Plan} (h : aflat P s o = some (R, p)) : AOk P s o R p :=
  .quiet fun B => by
    obtain ⟨h1, h2, h3, h4⟩ := aflat_does (B := B) h
    subst h2
    exact ⟨h1, in_none, h3, h4⟩
theorem AOk.move {s : St} {o : Oper} {x : Operand} {R : Req} {p : Plan} (ho : ∀ a : Act, execOp a.eval o = pure (.value (a.eval x))) (h : amove s x = some (R, p)) : AOk P s o R p :=
  .quiet fun B => by
    obtain ⟨h1, h2, h3, h4⟩ := amove_does (B := B) (P := P) ho h
    subst h2
    exact ⟨h1, in_none, h3, h4⟩
theorem aop_ok {tb : (List (Nat × TI))} (hT : TbOK P tb) {s : St} {o : Oper} {R : Req} {p : Plan} (h : aop P tb s o = some (R, p)) : AOk P s o R p := by
  unfold aop at h
  split at h
  · rename_i x ho; exact .move (fun a => by unfold execOp; rw [ho]) h
  · rename_i x ho; exact .move (fun a => by unfold execOp; rw [ho]) h
  · rename_i x ho
    refine .quiet fun B => ?_
    obtain ⟨h1, h2, h3, h4⟩ := anil_does (B := B) (P := P) ho h
    subst h2; exact ⟨h1, in_none, h3, h4⟩
  · rename_i x i ho
    refine .quiet fun B => ?_
    obtain ⟨h1, h2, h3, h4⟩ := aext_does (B := B) (P := P) ho h
    subst h2; exact ⟨h1, in_none, h3, h4⟩
  · rename_i t ho; exact .new fun B => aalloc_does hT ho h
  · rename_i t x ho; exact .new fun B => abox_does ho h
  · rename_i t x ho; exact .quiet fun B => aload_does hT ho h
  · rename_i t x y ho
    have hh := fun B => astore_does (B := B) hT ho h
    exact ⟨fun B => (hh B).1, (hh 0).2.1, (hh 0).2.2.1, .inl (hh 0).2.2.2, fun n b hb => by rw [(hh 0).2.2.2] at hb; exact no_mem hb⟩
  · rename_i t x f ho; exact .quiet fun B => afield_does hT ho h
  · rename_i t ps ho; exact .quiet fun B => abuild_does hT ho h
  · rename_i t x ix ho; exact .quiet fun B => aindex_does hT ho h
  · rename_i t len ps ho; exact .new fun B => abuildSlice_does hT ho h
  · rename_i c ho
    split at h
    · rename_i x t hc; exact .quiet fun B => alen_does hT ho hc h
    · split at h
      · rename_i x y t hc
        have hh := fun B => aappend_does (B := B) hT ho hc h
        exact ⟨fun B => (hh B).1, (hh 0).2.1, (hh 0).2.2.1, .inr (hh 0).2.2.2.1, (hh 0).2.2.2.2⟩
      · cases hb : isBuiltin c with
        | false => rw [hb] at h; cases h
        | true => rw [hb] at h; exact .flat h
  · exact .flat h
def sure : Op → Bool
  | .binOp op _ _ y _ => match op with
    | .quo | .rem | .shl | .shr => match y with | .const _ => true | _ => false
    | .eql | .neq => false
    | _ => true
  | .indexAddr _ _ _ => false
  | .index _ _ _ => false
  | .slice _ _ _ _ _ => false
  | .makeSlice _ _ _ => false
  | .makeFunc _ _ _ => false
  | .fieldAddr _ _ _ => false
  | .load _ _ => false
  | .store _ _ _ => false
  | .call c => match c.callee with | .builtin b => (match b with | .len => false | _ => false) | _ => false
  | _ => true
theorem AOk.bin {s : St} {o : Oper} {op : BinOp} {t ty : TypeId} {x y : Operand} {u v r : Value} (h : ∀ (p q : Operand) (w : World), (do eqGuard op t p q u v; binOp op t u v : Sem Value).run P w = .ok r w) (ho : o.op = .binOp op t x y ty) (hx : ev s x = some u) (hy : ev s y = some v)
    (hu : flatV u = true) (hv : flatV v = true) (hr : flatV r = true) : AOk P s o ⟨rq s [x, y], []⟩ ⟨r, [], []⟩ := by
  refine .quiet fun B => ⟨Does.value (fun al _ => NB.flat hr) fun ρ a w hm => ?_, in_none, rfl, rfl⟩
  have hax := ev_eval hm (x := x) (by simp) hx
  have hay := ev_eval hm (x := y) (by simp) hy
  rw [rV_flat ρ hu] at hax
  rw [rV_flat ρ hv] at hay
  unfold execOp
  simp only [ho, hax, hay]
  rw [Sem.run_bind, h x y w, rV_flat ρ hr]; rfl
inductive Choice (P : Program) (tb : (List (Nat × TI))) (s : St) (o : Oper) (k : Req → Plan → Prop) : Prop
  | auto {R : Req} {p : Plan} (h : aop P tb s o = some (R, p)) (hk : k R p)
  | man {R : Req} {p : Plan} (h : AOk P s o R p) (hk : k R p)
def aOp (P : Program) (tb : (List (Nat × TI))) (s : St) (o : Oper) (k : Req → Plan → Prop) : Prop :=
  bif sure o.op then (match aop P tb s o with | some (R, p) => k R p | none => False)
  else Choice P tb s o k
theorem aOp_spec {tb : (List (Nat × TI))} (hT : TbOK P tb) {s : St} {o : Oper} {k : Req → Plan → Prop} (h : aOp P tb s o k) : ∃ R p, AOk P s o R p ∧ k R p := by
  unfold aOp at h
  cases hs : sure o.op with
  | true =>
    rw [hs, cond_true] at h
    split at h
    · rename_i R p hop; exact ⟨R, p, aop_ok hT hop, h⟩
    · exact h.elim
  | false =>
    rw [hs, cond_false] at h
    rcases h with ⟨h1, h2⟩ | ⟨h1, h2⟩
    · exact ⟨_, _, aop_ok hT h1, h2⟩
    · exact ⟨_, _, h1, h2⟩
def consK {α β : Type} : List α → List α → (List α → β) → β
  | [], ys, k => k ys
  | x :: xs, ys, k => consK xs ys fun l => k (x :: l)
theorem consK_eq {α β : Type} : ∀ (xs ys : List α) (k : List α → β), consK xs ys k = k (xs ++ ys)
  | [], ys, k => rfl
  | x :: xs, ys, k => consK_eq xs ys _
def namesK {β : Type} : List (Nat × Box) → List Nat → (List Nat → β) → β
  | [], al, k => k al
  | (n, _) :: r, al, k => namesK r al fun l => k (n :: l)
theorem namesK_eq {β : Type} : ∀ (xs : List (Nat × Box)) (ys : List Nat) (k : List Nat → β), namesK xs ys k = k (xs.map (·.1) ++ ys)
  | [], ys, k => rfl
  | (n, b) :: xs, ys, k => namesK_eq xs ys _
def appK {β : Type} (s : St) (d : Option Tmp) (p : Plan) (k : St → β) : β :=
  match s, p with
  | ⟨tm, σ, al, nt⟩, ⟨v, up, nw⟩ => consK up σ fun σ1 => consK nw σ1 fun σ2 => namesK nw al fun al2 =>
    match d with
    | some t => k ⟨(t, v) :: tm, σ2, al2, nt⟩
    | none => k ⟨tm, σ2, al2, nt⟩
theorem appK_eq {β : Type} (s : St) (d : Option Tmp) (p : Plan) (k : St → β) : appK s d p k = k (s.app d p) := by
  obtain ⟨tm, σ, al, nt⟩ := s
  obtain ⟨v, up, nw⟩ := p
  simp only [appK, consK_eq, namesK_eq]
  cases d <;> rfl
structure Br (b : Bool) (X Y : Prop) : Prop where
  t : b = true → X
  f : b = false → Y
theorem Br.T {X Y : Prop} (h : X) : Br true X Y := ⟨fun _ => h, fun h => Bool.noConfusion h⟩
theorem Br.F {X Y : Prop} (h : Y) : Br false X Y := ⟨fun h => Bool.noConfusion h, fun _ => h⟩
structure Chk (c : Bool) (X : Prop) : Prop where
  c : c = true
  x : X
def aRun (P : Program) (tb : (List (Nat × TI))) (ops : Array Oper) : List Oper → Nat → St → List Ent → (St → List Ent → Prop) → Prop
  | [], _, s, acc, K => K s acc
  | o :: r, i, s, acc, K =>
    match o.guard with
    | none => aOp P tb s o fun R p => appK s o.dst p fun s' => aRun P tb ops r (i + 1) s' (⟨i, o, R, p, false⟩ :: acc) K
    | some (j, want) =>
      match (ops[j]?).bind (·.dst) with
      | some t => match lk s.tm t with
        | some (.bool b) =>
          match want with
          | true => Br b (aOp P tb s o fun R p => appK s o.dst p fun s' => aRun P tb ops r (i + 1) s' (⟨i, o, R, p, false⟩ :: acc) K) (appK s o.dst nowt fun s' => aRun P tb ops r (i + 1) s' (⟨i, o, ⟨[], []⟩, nowt, true⟩ :: acc) K)
          | false => Br b (appK s o.dst nowt fun s' => aRun P tb ops r (i + 1) s' (⟨i, o, ⟨[], []⟩, nowt, true⟩ :: acc) K) (aOp P tb s o fun R p => appK s o.dst p fun s' => aRun P tb ops r (i + 1) s' (⟨i, o, R, p, false⟩ :: acc) K)
        | some _ => appK s o.dst nowt fun s' => aRun P tb ops r (i + 1) s' (⟨i, o, ⟨[], []⟩, nowt, true⟩ :: acc) K
        | none => False
      | none => False
theorem aRun_spec {tb : (List (Nat × TI))} (hT : TbOK P tb) {ops : Array Oper} {K : St → List Ent → Prop} : ∀ {rest : List Oper} {i : Nat} {s : St} {acc : List Ent}, aRun P tb ops rest i s acc K → (∀ j o, rest[j]? = some o → ops[i + j]? = some o) → (∀ o ∈ rest, ∀ t, o.dst = some t → t < s.nt) →
    ∃ L, (∀ B, Seq P B ops L s) ∧ L.map (·.i) = List.range' i rest.length ∧ K (fin L s) (L.reverse ++ acc)
  | [], i, s, acc, h, _, _ => ⟨[], fun _ => trivial, rfl, h⟩
  | o :: r, i, s, acc, h, hops, hd => by
    have ho : ops[i]? = some o := by simpa using hops 0 o rfl
    have hops' : ∀ j o', r[j]? = some o' → ops[i + 1 + j]? = some o' := fun j o' hj => by
      have := hops (j + 1) o' (by simpa using hj)
      rw [show i + 1 + j = i + (j + 1) by omega]; exact this
    have hd' : ∀ o' ∈ r, ∀ t, o'.dst = some t → t < s.nt := fun o' ho' => hd o' (List.mem_cons_of_mem _ ho')
    have exec : Gd ops s o false → aOp P tb s o (fun R p => appK s o.dst p fun s' => aRun P tb ops r (i + 1) s' (⟨i, o, R, p, false⟩ :: acc) K) →
        ∃ L, (∀ B, Seq P B ops L s) ∧ L.map (·.i) = List.range' i (o :: r).length ∧ K (fin L s) (L.reverse ++ acc) := by
      intro hg h
      obtain ⟨R, p, hok, h⟩ := aOp_spec hT h
      rw [appK_eq] at h
      obtain ⟨L, h1, h2, h3⟩ := aRun_spec hT h hops' hd'
      refine ⟨⟨i, o, R, p, false⟩ :: L, fun B => ⟨ho, ⟨hg, hd o List.mem_cons_self, (fun h => by cases h), fun _ => ⟨hok.does B, hok.inn⟩, hok.up, hok.dist, hok.nw⟩, h1 B⟩, ?_, ?_⟩
      · rw [List.map_cons, h2, List.length_cons, List.range'_succ]
      · rw [List.reverse_cons, List.append_assoc]; exact h3
    have skip : Gd ops s o true → (appK s o.dst nowt fun s' => aRun P tb ops r (i + 1) s' (⟨i, o, ⟨[], []⟩, nowt, true⟩ :: acc) K) →
        ∃ L, (∀ B, Seq P B ops L s) ∧ L.map (·.i) = List.range' i (o :: r).length ∧ K (fin L s) (L.reverse ++ acc) := by
      intro hg h9
      rw [appK_eq] at h9
      obtain ⟨L, h1, h2, h3⟩ := aRun_spec hT h9 hops' hd'
      refine ⟨⟨i, o, ⟨[], []⟩, nowt, true⟩ :: L, fun B => ⟨ho, ⟨hg, hd o List.mem_cons_self, fun _ => rfl, (fun h => by cases h), fun n b hb => no_mem hb, .inl rfl, fun n b hb => no_mem hb⟩, h1 B⟩, ?_, ?_⟩
      · rw [List.map_cons, h2, List.length_cons, List.range'_succ]
      · rw [List.reverse_cons, List.append_assoc]; exact h3
    unfold aRun at h
    cases hgd : o.guard with
    | none =>
      rw [hgd] at h
      exact exec (by unfold Gd; rw [hgd]) h
    | some jw =>
      obtain ⟨j, want⟩ := jw
      rw [hgd] at h
      simp only at h
      cases ht : (ops[j]?).bind (·.dst) with
      | none => rw [ht] at h; exact h.elim
      | some t =>
        rw [ht] at h
        simp only at h
        split at h
        · rename_i b hb
          have h : (b = want → aOp P tb s o fun R p => appK s o.dst p fun s' => aRun P tb ops r (i + 1) s' (⟨i, o, R, p, false⟩ :: acc) K) ∧ (b = !want → appK s o.dst nowt fun s' => aRun P tb ops r (i + 1) s' (⟨i, o, ⟨[], []⟩, nowt, true⟩ :: acc) K) := by
            cases want with
            | true => exact ⟨h.t, h.f⟩
            | false => exact ⟨h.f, h.t⟩
          by_cases hw : b = want
          · exact exec (by unfold Gd; rw [hgd]; exact ⟨t, .bool b, ht, hb, by rw [hw]; cases want <;> rfl⟩) (h.1 hw)
          · have hw2 : b = !want := by cases b <;> cases want <;> simp_all
            exact skip (by unfold Gd; rw [hgd]; exact ⟨t, .bool b, ht, hb, by rw [hw2]; cases want <;> rfl⟩) (h.2 hw2)
        · rename_i v hnb hv
          exact skip (by
            unfold Gd; rw [hgd]
            refine ⟨t, v, ht, hv, ?_⟩
            unfold gsk
            split
            · exact (hnb _ rfl).elim
            · rfl) h
        · exact h.elim
def dops (nt : Nat) : List Oper → Bool
  | [] => true
  | o :: r => (match o.dst with | some t => Nat.blt t nt | none => true) && dops nt r
theorem dops_spec {nt : Nat} : ∀ {l : List Oper}, dops nt l = true → ∀ o ∈ l, ∀ t, o.dst = some t → t < nt
  | [], _, _, ho, _, _ => absurd ho List.not_mem_nil
  | o :: r, h, o', ho, t, ht => by
    simp only [dops, Bool.and_eq_true] at h
    rcases List.mem_cons.1 ho with e | e
    · subst e
      have := h.1
      rw [ht] at this
      simpa using this
    · exact dops_spec h.2 o' e t ht
def dcode (nt : Nat) : Code → Bool
  | .region _ ops _ => dops nt ops.toList
  | .seq a b => dcode nt a && dcode nt b
  | .cond _ a b => dcode nt a && dcode nt b
  | .block _ c => dcode nt c
  | .loop c => dcode nt c
  | _ => true
def Ren (I : Nat) (s s' : St) : Prop := s'.nt = s.nt ∧ ∀ c ρ a w, c.I = I → Sat c ρ s a w → ∃ ρ', Sat c ρ' s' a w
theorem Ren.le {I : Nat} {s s' : St} (h : Le s' s) : Ren I s s' := ⟨h.nt, fun c ρ a w _ hs => ⟨ρ, hs.le h⟩⟩
theorem Ren.refl {I : Nat} {s : St} : Ren I s s := .le (Eqv.refl s).le
structure RenS (I : Nat) (s : St) (S : St → Prop) : Prop where
  out : ∀ c ρ a w, c.I = I → Sat c ρ s a w → ∃ ρ' s', S s' ∧ s'.nt = s.nt ∧ Sat c ρ' s' a w
theorem RenS.of {I : Nat} {s s' : St} {S : St → Prop} (h : Ren I s s') (hS : S s') : RenS I s S :=
  ⟨fun c ρ a w hc hs => let ⟨ρ', h'⟩ := h.2 c ρ a w hc hs; ⟨ρ', s', hS, h.1, h'⟩⟩
theorem RenS.mono {I : Nat} {s : St} {S S' : St → Prop} (h : RenS I s S) (hS : ∀ s, S s → S' s) : RenS I s S' :=
  ⟨fun c ρ a w hc hs => let ⟨ρ', s', h1, h2, h3⟩ := h.out c ρ a w hc hs; ⟨ρ', s', hS _ h1, h2, h3⟩⟩
theorem RenS.trans {I : Nat} {s s' : St} {S : St → Prop} (h : Ren I s s') (k : RenS I s' S) : RenS I s S :=
  ⟨fun c ρ a w hc hs => by
    obtain ⟨ρ', h'⟩ := h.2 c ρ a w hc hs
    obtain ⟨ρ2, s2, h1, h2, h3⟩ := k.out c ρ' a w hc h'
    exact ⟨ρ2, s2, h1, h2.trans h.1, h3⟩⟩
def sQ (N : St → Prop) (Q : Exit → St → Prop) : Exit → St → Prop := fun e s' => match e with
  | .normal => N s'
  | e => Q e s'
def bQ (id : Nat) (Q : Exit → St → Prop) : Exit → St → Prop := fun e s' => match e with
  | .exit j => bif Nat.beq j id then Q .normal s' else Q (.exit j) s'
  | e => Q e s'
def aCode (P : Program) (tb : (List (Nat × TI))) (I : Nat) : Code → St → (Exit → St → Prop) → Prop
  | .skip, s, Q => Q .normal s
  | .region _ ops draw, s, Q => aRun P tb ops ops.toList 0 s [] fun s' acc => match draw with | true => Chk (chk ops acc.reverse) (Q .normal s') | false => Q .normal s'
  | .seq a b, s, Q => aCode P tb I a s (sQ (fun s' => RenS I s' fun s2 => aCode P tb I b s2 Q) Q)
  | .cond c a b, s, Q => match ev s c with
    | some (.bool x) => Br x (aCode P tb I a s Q) (aCode P tb I b s Q)
    | _ => False
  | .block id c, s, Q => aCode P tb I c s (bQ id Q)
  | .loop c, s, Q => ∃ (Inv : Nat → St → Prop), RenS I s (fun s0 => ∃ m, Inv m s0) ∧ ∀ m s, Inv m s → aCode P tb I c s (sQ (fun s' => RenS I s' fun s0' => ∃ m', m' < m ∧ Inv m' s0') Q)
  | .exit id, s, Q => Q (.exit id) s
  | .ret, s, Q => Q .ret s
  | _, _, _ => False
theorem wp_loop_rel {P : Program} {Q : Exit → Act → World → Prop} {a : Act} {w : World} {c : Code} (J : Nat → Act → World → Prop) {m : Nat} (h₀ : J m a w)
    (round : ∀ m a w, J m a w → c.wp P (Exit.then (fun a' w' => ∃ m', m' < m ∧ J m' a' w') Q) a w) : (Code.loop c).wp P Q a w := by
  intro b k cs
  have key : ∀ n a w, J n a w → ∃ e a' w', Q e a' w' ∧ Arrives P (lone (b.at a (.code c :: .inLoop c :: k)) cs w) b k cs e a' w' := by
    intro n
    induction n using Nat.strongRecOn with
    | _ n ih =>
      intro a w hI
      obtain ⟨e, a₁, w₁, hq, harr⟩ := round n a w hI b (.inLoop c :: k) cs
      cases e with
      | normal =>
        obtain ⟨m', hlt, hI₁⟩ := hq
        obtain ⟨e₂, a₂, w₂, hq₂, harr₂⟩ := ih m' hlt a₁ w₁ hI₁
        exact ⟨e₂, a₂, w₂, hq₂, .of_steps (Steps.trans harr (.one step_inLoop)) harr₂⟩
      | exit id => exact ⟨_, a₁, w₁, hq, .pass (x := .inLoop c) rfl (fun _ _ => .inl (by simp)) harr⟩
      | goto l => exact ⟨_, a₁, w₁, hq, .pass (x := .inLoop c) rfl (fun _ _ => .inl (by simp)) harr⟩
      | ret => exact ⟨_, a₁, w₁, hq, .pass (x := .inLoop c) rfl (fun _ _ => .inl (by simp)) harr⟩
      | panic ch => exact ⟨_, a₁, w₁, hq, .pass (x := .inLoop c) rfl (fun _ _ => .inl (by simp)) harr⟩
      | outgrown => exact ⟨_, a₁, w₁, hq, .pass (x := .inLoop c) rfl (fun _ _ => .inl (by simp)) harr⟩
  obtain ⟨e, a', w', hq, harr⟩ := key m a w h₀
  exact ⟨e, a', w', hq, .of_steps (.one step_loop) harr⟩
def Post (cx : Cx) (nt : Nat) (Q : Exit → St → Prop) : Exit → Act → World → Prop := fun e a w => ∃ ρ s, Q e s ∧ s.nt = nt ∧ Sat cx ρ s a w
theorem fin_nt : ∀ (L : List Ent) (s : St), (fin L s).nt = s.nt
  | [], s => rfl
  | e :: r, s => (fin_nt r _).trans rfl
theorem wp_imp {c : Code} {Q Q' : Exit → Act → World → Prop} {a : Act} {w : World} (h : c.wp P Q a w) (hi : ∀ e a w, Q e a w → Q' e a w) : c.wp P Q' a w :=
  fun b k cs => let ⟨e, a', w', q, r⟩ := h b k cs; ⟨e, a', w', hi _ _ _ q, r⟩
theorem aCode_sound {tb : (List (Nat × TI))} (hT : TbOK P tb) {I : Nat} (hm : P.follows .mixedOrders = true) : ∀ (c : Code) {cx : Cx} {ρ : (Nat → Pl)} {s : St} {a : Act} {w : World} {Q : Exit → St → Prop}, cx.I = I → aCode P tb I c s Q → dcode s.nt c = true → Sat cx ρ s a w → c.wp P (Post cx s.nt Q) a w
  | .skip, cx, ρ, s, a, w, Q, hI, h, hd, hs => by
    have hq : Post cx s.nt Q .normal a w := ⟨ρ, s, h, rfl, hs⟩
    exact Go.wp_skip hq
  | .region id ops draw, cx, ρ, s, a, w, Q, hI, h, hd, hs => by
    obtain ⟨L, h1, h2, h3⟩ := aRun_spec hT (ops := ops) (i := 0) h (fun j o hj => by simpa using hj) (dops_spec hd)
    rw [List.append_nil, List.reverse_reverse] at h3
    have hir : L.map (·.i) = List.range ops.size := by rw [h2, ← List.range_eq_range']; simp
    have h4 : (draw = true → chk ops L = true) ∧ Q .normal (fin L s) := by
      cases draw with
      | true => exact ⟨fun _ => h3.c, h3.x⟩
      | false => exact ⟨(fun h => by cases h), h3⟩
    have hq : ∀ ρ' a' w', Sat cx ρ' (fin L s) a' w' → Post cx s.nt Q .normal a' w' := fun ρ' a' w' h' => Exists.intro ρ' (Exists.intro (fin L s) (And.intro h4.2 (And.intro (fin_nt L s) h')))
    exact wp_ents hm hs (h1 cx.B) hir h4.1 hq
  | .seq x y, cx, ρ, s, a, w, Q, hI, h, hd, hs => by
    simp only [dcode, Bool.and_eq_true] at hd
    refine wp_seq (wp_imp (aCode_sound hT hm x hI h hd.1 hs) fun e a' w' hp => ?_)
    obtain ⟨ρ', s', hq, hnt, hs'⟩ := hp
    cases e with
    | normal =>
      obtain ⟨ρ2, s2, hq2, hnt2, hs2⟩ := hq.out cx ρ' a' w' hI hs'
      have := aCode_sound hT hm y hI hq2 (by rw [hnt2, hnt]; exact hd.2) hs2
      rw [hnt2, hnt] at this; exact this
    | _ => exact ⟨ρ', s', hq, hnt, hs'⟩
  | .cond c x y, cx, ρ, s, a, w, Q, hI, h, hd, hs => by
    simp only [dcode, Bool.and_eq_true] at hd
    unfold aCode at h
    split at h
    · rename_i b hb
      have hev : a.eval c = .bool b := by
        have := ev_eval (B := cx.B) (s := s) (l := [c]) (σ := []) (ρ := ρ) (a := a) (w := w) ⟨hs.df, fun t v hv => (hs.tm t v (rq_in hv)).1, fun n b hb => no_mem hb, hs.hB, fun n m b b' hb => no_mem hb⟩ List.mem_cons_self hb
        exact this
      exact wp_cond_split hev (fun hb => aCode_sound hT hm x hI (h.t hb) hd.1 hs) (fun hb => aCode_sound hT hm y hI (h.f hb) hd.2 hs)
    · exact h.elim
  | .block id c, cx, ρ, s, a, w, Q, hI, h, hd, hs => by
    refine wp_block (wp_imp (aCode_sound hT hm c hI h hd hs) fun e a' w' hp => ?_)
    obtain ⟨ρ', s', hq, hnt, hs'⟩ := hp
    cases e with
    | exit j =>
      simp only [Exit.inBlock]
      by_cases hj : j = id
      · rw [if_pos hj]
        simp only [bQ, hj, Nat.beq_refl, cond_true] at hq
        exact ⟨ρ', s', hq, hnt, hs'⟩
      · rw [if_neg hj]
        have : Nat.beq j id = false := by cases hb : Nat.beq j id with | false => rfl | true => exact absurd (Nat.eq_of_beq_eq_true hb) hj
        simp only [bQ, this, cond_false] at hq
        exact ⟨ρ', s', hq, hnt, hs'⟩
    | _ => exact ⟨ρ', s', hq, hnt, hs'⟩
  | .loop c, cx, ρ, s, a, w, Q, hI, h, hd, hs => by
    obtain ⟨Inv, hr, hround⟩ := h
    obtain ⟨ρ0, s0, ⟨m, h0⟩, hn0, hs0⟩ := hr.out cx ρ a w hI hs
    refine wp_loop_rel (fun m a w => ∃ ρ s', Inv m s' ∧ s'.nt = s.nt ∧ Sat cx ρ s' a w) (m := m) ⟨ρ0, s0, h0, hn0, hs0⟩ fun m a w hJ => ?_
    obtain ⟨ρ1, s1, h1, hn1, hs1⟩ := hJ
    have := aCode_sound hT hm c hI (hround m s1 h1) (by rw [hn1]; exact hd) hs1
    refine wp_imp this fun e a' w' hp => ?_
    obtain ⟨ρ', s', hq, hnt, hs'⟩ := hp
    cases e with
    | normal =>
      obtain ⟨ρ2, s0', ⟨m', hlt, hinv⟩, hn2, hs2⟩ := hq.out cx ρ' a' w' hI hs'
      exact ⟨m', hlt, ρ2, s0', hinv, hn2.trans (hnt.trans hn1), hs2⟩
    | _ => exact ⟨ρ', s', hq, hnt.trans hn1, hs'⟩
  | .exit id, cx, ρ, s, a, w, Q, hI, h, hd, hs => wp_exit ⟨ρ, s, h, rfl, hs⟩
  | .ret, cx, ρ, s, a, w, Q, hI, h, hd, hs => wp_ret ⟨ρ, s, h, rfl, hs⟩
  | .rangeFunc _ _ _ _, cx, ρ, s, a, w, Q, hI, h, hd, hs => h.elim
  | .scope _, cx, ρ, s, a, w, Q, hI, h, hd, hs => h.elim
  | .label _, cx, ρ, s, a, w, Q, hI, h, hd, hs => h.elim
  | .goto _, cx, ρ, s, a, w, Q, hI, h, hd, hs => h.elim
  | .refuse _, cx, ρ, s, a, w, Q, hI, h, hd, hs => h.elim
end
end En
end Go.Proofs.YtbageimconenlaaGreat
