/- The engine: operations that are carried out by reckoning. No program in sight. -/
import Derived.Test.YtbageimconenlaaGreatE3
import Derived.Laws.Tables
import Derived.Deep.MidRow
namespace Go.Proofs.YtbageimconenlaaGreat
open Go.RowKit
set_option linter.unusedVariables false
namespace En
section
variable {P : Program} {B : Nat}
theorem no_mem {q : Prop} {n : Nat} {b : Box} (h : (n, b) ∈ ([] : List (Nat × Box))) : q := absurd h List.not_mem_nil
theorem Eff.same (ρ : (Nat → Pl)) (w : World) (v : Value) : Eff B ρ w ⟨v, [], []⟩ ρ w :=
  ⟨rfl, rfl, rfl, Nat.le_refl _, fun _ _ _ => rfl, fun _ _ => rfl, fun n b hb => no_mem hb, fun n b hb => no_mem hb, fun n b hb => no_mem hb, fun n b m b' hb => no_mem hb⟩
def upd (ρ : (Nat → Pl)) (n : Nat) (p : Pl) : (Nat → Pl) := fun m => bif Nat.beq m n then p else ρ m
theorem upd_same (ρ : (Nat → Pl)) (n : Nat) (p : Pl) : upd ρ n p n = p := by simp [upd]
theorem upd_other (ρ : (Nat → Pl)) {n m : Nat} (p : Pl) (h : m ≠ n) : upd ρ n p m = ρ m := by
  unfold upd
  rw [show Nat.beq m n = false from by cases hb : Nat.beq m n with | false => rfl | true => exact absurd (Nat.eq_of_beq_eq_true hb) h]; rfl
theorem upd_agr (ρ : (Nat → Pl)) {n : Nat} {al : List Nat} (p : Pl) (h : n ∉ al) : agr al (upd ρ n p) ρ := fun m hm => upd_other ρ p (by rintro rfl; exact h hm)
theorem Eff.new (ρ : (Nat → Pl)) (w : World) (hB : B ≤ w.heap.size) (v : Value) (n : Nat) (t : TypeId) (C : List Value) (cap : Nat) (b : Box) (hb : BoxOK B (upd ρ n (pl4 w.heap.size 0 cap false)) (w.alloc (.cells (rL (upd ρ n (pl4 w.heap.size 0 cap false)) C).toArray t)) n b) :
    Eff B ρ w ⟨v, [], [(n, b)]⟩ (upd ρ n (pl4 w.heap.size 0 cap false)) (w.alloc (.cells (rL (upd ρ n (pl4 w.heap.size 0 cap false)) C).toArray t)) := by
  refine ⟨rfl, rfl, rfl, by simp, fun g hg _ => Below.heap_alloc w _ g hg, fun m hm => upd_other ρ _ (by rintro rfl; exact hm _ List.mem_cons_self), fun n b hb => no_mem hb, ?_, ?_, ?_⟩
  · intro m b' hm
    simp at hm
    obtain ⟨rfl, rfl⟩ := hm
    exact hb
  · intro m b' hm g hg
    simp at hm
    obtain ⟨rfl, rfl⟩ := hm
    rw [upd_same] at hg
    left
    cases b' with
    | row t C => rw [← show w.heap.size = g from hg]; exact Nat.le_refl _
    | view k C => rw [← show w.heap.size = g from hg.2]; exact Nat.le_refl _
    | vec e k C => rw [← show w.heap.size = g from hg.2]; exact Nat.le_refl _
    | gone => exact hg.elim
    | deep F => exact (show False from hg).elim
  · intro m b' m2 b2 hm hm2 hne
    simp at hm hm2
    exact absurd (hm.1.trans hm2.1.symm) hne
theorem boxrow_new (ρ : (Nat → Pl)) (w : World) (hB : B ≤ w.heap.size) (n : Nat) (t : TypeId) (C : List Value) : BoxOK B (upd ρ n (pl4 w.heap.size 0 0 false)) (w.alloc (.cells (rL (upd ρ n (pl4 w.heap.size 0 0 false)) C).toArray t)) n (.row t C) := by
  unfold BoxOK
  rw [upd_same]
  exact ⟨hB, rfl, rfl, Blk.new w t _⟩
/-- a computation that asks for the program alone -/
def pureRun (P : Program) {α : Type} : Sem α → Option α
  | .pure a => some a
  | .program k => pureRun P (k P)
  | .mark _ k => pureRun P k
  | _ => none
theorem pureRun_run {α : Type} : ∀ {s : Sem α} {a : α}, pureRun P s = some a → ∀ w, s.run P w = .ok a w
  | .pure x, a, h, w => by cases h; rfl
  | .program k, a, h, w => pureRun_run (s := k P) h w
  | .mark m k, a, h, w => pureRun_run (s := k) h w
  | .load _ _ _, a, h, w => by cases h
  | .store _ _ _ _, a, h, w => by cases h
  | .new _ _, a, h, w => by cases h
  | .shape _ _, a, h, w => by cases h
  | .freeze _ _ _, a, h, w => by cases h
  | .frozen _ _, a, h, w => by cases h
  | .getObj _ _, a, h, w => by cases h
  | .setObj _ _ _, a, h, w => by cases h
  | .choose _ _, a, h, w => by cases h
  | .sys _ _, a, h, w => by cases h
  | .halt _, a, h, w => by cases h
/-- operands -/
def ev (s : St) : Operand → Option Value
  | .tmp t => lk s.tm t
  | .const v => bif flatV v then some v else none
  | .func f => some (.func (.func f) #[] #[])
  | .global _ => none
def rq (s : St) : List Operand → List (Nat × Value)
  | [] => []
  | .tmp t :: r => match lk s.tm t with | some v => (t, v) :: rq s r | none => rq s r
  | _ :: r => rq s r
/-- the same, reckoned ahead of what follows -/
def rqK {β : Type} (tm : List (Nat × Value)) : List Operand → (List (Nat × Value) → β) → β
  | [], k => k []
  | .tmp t :: r, k => match lk tm t with | some v => rqK tm r fun l => k ((t, v) :: l) | none => rqK tm r k
  | .const _ :: r, k => rqK tm r k
  | .global _ :: r, k => rqK tm r k
  | .func _ :: r, k => rqK tm r k
theorem rqK_eq {β : Type} {s : St} : ∀ (l : List Operand) (k : List (Nat × Value) → β), rqK s.tm l k = k (rq s l)
  | [], k => rfl
  | .tmp t :: r, k => by
    simp only [rqK, rq]
    cases lk s.tm t with
    | some v => exact rqK_eq r _
    | none => exact rqK_eq r k
  | .const _ :: r, k => rqK_eq r k
  | .global _ :: r, k => rqK_eq r k
  | .func _ :: r, k => rqK_eq r k
theorem rq_mem {s : St} {t : Nat} {v : Value} : ∀ {l : List Operand}, .tmp t ∈ l → lk s.tm t = some v → (t, v) ∈ rq s l
  | x :: r, h, hv => by
    rcases List.mem_cons.1 h with h | h
    · subst h
      simp only [rq, hv]
      exact List.mem_cons_self
    · have := rq_mem h hv
      cases x <;> simp only [rq] <;> try exact this
      split
      · exact List.mem_cons_of_mem _ this
      · exact this
theorem rq_in {s : St} : ∀ {l : List Operand} {t : Nat} {v : Value}, (t, v) ∈ rq s l → lk s.tm t = some v
  | x :: r, t, v, h => by
    cases x with
    | tmp u =>
      simp only [rq] at h
      split at h
      · rename_i y hy
        rcases List.mem_cons.1 h with h | h
        · cases h; exact hy
        · exact rq_in h
      · exact rq_in h
    | const c => exact rq_in (l := r) h
    | global g => exact rq_in (l := r) h
    | func f => exact rq_in (l := r) h
theorem ev_eval {s : St} {l : List Operand} {σ : List (Nat × Box)} {ρ : (Nat → Pl)} {a : Act} {w : World} (h : Met B ρ ⟨rq s l, σ⟩ a w) {x : Operand} {v : Value} (hx : x ∈ l) (hv : ev s x = some v) : a.eval x = rV ρ v := by
  cases x with
  | tmp t =>
    have := h.tm t v (rq_mem hx hv)
    show a.tmps.getD t undef = _
    rw [Array.getD_eq_getD_getElem?, this]; rfl
  | const c =>
    have hv : (bif flatV c then some c else none) = some v := hv
    cases hf : flatV c with
    | false => rw [hf] at hv; cases hv
    | true => rw [hf] at hv; cases hv; exact (rV_flat ρ hf).symm
  | global g => cases hv
  | func f => cases hv; rfl
theorem ev_nb {s : St} {l : List Operand} {σ : List (Nat × Box)} {al : List Nat} (h : RNB al ⟨rq s l, σ⟩) {x : Operand} {v : Value} (hx : x ∈ l) (hv : ev s x = some v) : NB al v := by
  cases x with
  | tmp t => exact h.tm t v (rq_mem hx hv)
  | const c =>
    have hv : (bif flatV c then some c else none) = some v := hv
    cases hf : flatV c with
    | false => rw [hf] at hv; cases hv
    | true => rw [hf] at hv; cases hv; exact NB.flat hf
  | global g => cases hv
  | func f => cases hv; exact NB.flat (by rfl)
/-- a plan that gives a value alone -/
theorem PlanNB.val {al : List Nat} {v : Value} (h : NB al v) : PlanNB al ⟨v, [], []⟩ := ⟨h, fun n b hb => no_mem hb, fun n b hb => no_mem hb⟩
theorem wp_value {o : Oper} {a : Act} {w w' : World} {v : Value} {K : Act → World → Prop} {Q : Exit → Act → World → Prop} (h : (execOp a.eval o).run P w = .ok (.value v) w') (hK : K (a.put o.dst v) w') : o.wp P a w K Q := by
  unfold Oper.wp; rw [h]; exact hK
theorem wp_skip {o : Oper} {a : Act} {w w' : World} {K : Act → World → Prop} {Q : Exit → Act → World → Prop} (h : (execOp a.eval o).run P w = .ok .skip w') (hK : K (a.put o.dst undef) w') : o.wp P a w K Q := by
  unfold Oper.wp; rw [h]; exact hK
theorem Does.value {o : Oper} {R : Req} {v : Value} (hn : ∀ al, RNB al R → NB al v) (h : ∀ ρ a w, Met B ρ R a w → (execOp a.eval o).run P w = .ok (.value (rV ρ v)) w) : Does P B o R ⟨v, [], []⟩ :=
  ⟨fun al hr => .val (hn al hr), fun ρ a w al hm _ _ K Q hK => .inl (wp_value (h ρ a w hm) (hK ρ w (Eff.same ρ w v)))⟩
/-- a value with its head reckoned -/
def frcV {β : Type} (v : Value) (k : Value → β) : β :=
  match v with
  | .bool b => k (.bool b)
  | .int i n => k (.int i n)
  | .float i b => k (.float i b)
  | .complex i a b => k (.complex i a b)
  | .string x => k (.string x)
  | .pointer a => k (.pointer a)
  | .slice a n c => k (.slice a n c)
  | .map r => k (.map r)
  | .chan r => k (.chan r)
  | .func f x c => k (.func f x c)
  | .nilFunc => k .nilFunc
  | .iface t v => k (.iface t v)
  | .nilIface => k .nilIface
  | .agg cs => k (.agg cs)
  | .tuple vs => k (.tuple vs)
theorem frcV_eq {β : Type} (v : Value) (k : Value → β) : frcV v k = k v := by cases v <;> rfl
/-- operations on values without names -/
def allFlat (s : St) : List Operand → Bool
  | [] => true
  | x :: r => match ev s x with | some v => flatV v && allFlat s r | none => false
theorem allFlat_spec {s : St} : ∀ {l : List Operand}, allFlat s l = true → ∀ x ∈ l, ∃ v, ev s x = some v ∧ flatV v = true
  | y :: r, h, x, hx => by
    simp only [allFlat] at h
    split at h
    · rename_i v hv
      simp only [Bool.and_eq_true] at h
      rcases List.mem_cons.1 hx with e | e
      · subst e; exact ⟨v, hv, h.1⟩
      · exact allFlat_spec h.2 x e
    · cases h
def noSel : Op → Bool
  | .select _ _ => false
  | _ => true
def aflat (P : Program) (s : St) (o : Oper) : Option (Req × Plan) :=
  bif noSel o.op && allFlat s o.op.operands.toList then
    match pureRun P (execOp (fun x => (ev s x).getD undef) o) with
    | some (.value v) => bif flatV v then rqK s.tm o.op.operands.toList fun l => frcV v fun v' => some (⟨l, []⟩, ⟨v', [], []⟩) else none
    | _ => none
  else none
theorem aflat_does {s : St} {o : Oper} {R : Req} {p : Plan} (h : aflat P s o = some (R, p)) : Does P B o R p ∧ R = ⟨rq s o.op.operands.toList, []⟩ ∧ p.up = [] ∧ p.nw = [] := by
  unfold aflat at h
  cases hc : (noSel o.op && allFlat s o.op.operands.toList) with
  | false => rw [hc] at h; cases h
  | true =>
    rw [hc, cond_true] at h
    simp only [Bool.and_eq_true] at hc
    split at h
    · rename_i v hv
      cases hf : flatV v with
      | false => rw [hf] at h; cases h
      | true =>
        rw [hf, cond_true, rqK_eq, frcV_eq] at h; cases h
        refine ⟨Does.value (fun al _ => NB.flat hf) fun ρ a w hm => ?_, rfl, rfl, rfl⟩
        rw [rV_flat ρ hf]
        have he : execOp a.eval o = execOp (fun x => (ev s x).getD undef) o := execOp_congr o (fun cs b e => by rw [e] at hc; simp [noSel] at hc) fun x hx => by
          obtain ⟨u, hu, hfu⟩ := allFlat_spec hc.2 x (by simpa using hx)
          rw [ev_eval hm (by simpa using hx) hu, hu, rV_flat ρ hfu]; rfl
        rw [he]
        exact pureRun_run hv w
    · cases h
/-- a value handed on -/
def amove (s : St) (x : Operand) : Option (Req × Plan) :=
  match ev s x with | some v => rqK s.tm [x] fun l => some (⟨l, []⟩, ⟨v, [], []⟩) | none => none
theorem amove_does {s : St} {o : Oper} {x : Operand} {R : Req} {p : Plan} (ho : ∀ a : Act, execOp a.eval o = pure (.value (a.eval x))) (h : amove s x = some (R, p)) : Does P B o R p ∧ R = ⟨rq s [x], []⟩ ∧ p.up = [] ∧ p.nw = [] := by
  unfold amove at h
  split at h
  · rename_i v hv
    rw [rqK_eq] at h
    cases h
    refine ⟨Does.value (fun al hr => ev_nb hr List.mem_cons_self hv) fun ρ a w hm => ?_, rfl, rfl, rfl⟩
    rw [ho, ev_eval hm List.mem_cons_self hv]; rfl
  · cases h
def anil (s : St) (x : Operand) : Option (Req × Plan) :=
  match ev s x with | some (.pointer (some ad)) => rqK s.tm [x] fun l => some (⟨l, []⟩, ⟨.pointer (some ad), [], []⟩) | _ => none
theorem anil_does {s : St} {o : Oper} {x : Operand} {R : Req} {p : Plan} (ho : o.op = .nilCheck x) (h : anil s x = some (R, p)) : Does P B o R p ∧ R = ⟨rq s [x], []⟩ ∧ p.up = [] ∧ p.nw = [] := by
  unfold anil at h
  split at h
  · rename_i ad hv
    rw [rqK_eq] at h
    cases h
    refine ⟨Does.value (fun al hr => ev_nb hr List.mem_cons_self hv) fun ρ a w hm => ?_, rfl, rfl, rfl⟩
    unfold execOp
    simp only [ho, ev_eval hm List.mem_cons_self hv]
    rfl
  · cases h
/-- a component of a tuple -/
def aext (s : St) (x : Operand) (i : Nat) : Option (Req × Plan) :=
  match ev s x with
  | some (.tuple vs) => match vs.toList[i]? with | some v => bif (match v with | .tuple _ => false | _ => true) then rqK s.tm [x] fun l => some (⟨l, []⟩, ⟨v, [], []⟩) else none | none => none
  | _ => none
theorem rV_r1 (ρ : (Nat → Pl)) {v : Value} (h : (match v with | .tuple _ => false | _ => true) = true) : rV ρ v = r1 ρ v := by
  cases v <;> first | rfl | cases h
theorem mapA_at (f : Value → Value) (a : Array Value) (i : Nat) : (mapA f a)[i]? = (a.toList[i]?).map f := by
  unfold mapA
  rw [List.getElem?_toArray, List.getElem?_map]
theorem aext_does {s : St} {o : Oper} {x : Operand} {i : Nat} {R : Req} {p : Plan} (ho : o.op = .extract x i) (h : aext s x i = some (R, p)) : Does P B o R p ∧ R = ⟨rq s [x], []⟩ ∧ p.up = [] ∧ p.nw = [] := by
  unfold aext at h
  split at h
  · rename_i vs hv
    split at h
    · rename_i v hi
      cases hc : (match v with | .tuple _ => false | _ => true) with
      | false => rw [hc] at h; cases h
      | true =>
        rw [hc, cond_true, rqK_eq] at h; cases h
        refine ⟨Does.value (fun al hr ρ ρ' ha => ?_) fun ρ a w hm => ?_, rfl, rfl, rfl⟩
        · have h1 := ev_nb hr List.mem_cons_self hv ρ ρ' ha
          have h2 : mapA (r1 ρ) vs = mapA (r1 ρ') vs := by
            have : Value.tuple (mapA (r1 ρ) vs) = Value.tuple (mapA (r1 ρ') vs) := h1
            injection this
          have h3 := congrArg (fun a : Array Value => a[i]?) h2
          simp only [mapA_at, hi, Option.map_some] at h3
          injection h3 with h3
          rw [rV_r1 ρ hc, rV_r1 ρ' hc, h3]
        · unfold execOp
          simp only [ho, ev_eval hm List.mem_cons_self hv]
          have : (mapA (r1 ρ) vs)[i]? = some (r1 ρ v) := by rw [mapA_at, hi]; rfl
          simp only [rV, Instr.extract, this]
          rw [← rV_r1 ρ hc]; rfl
    · cases h
  · cases h
end
end En
end Go.Proofs.YtbageimconenlaaGreat
