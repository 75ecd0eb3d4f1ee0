/- The engine: new memory, addresses, composite values; one operation by reckoning. No program in sight. -/
import Derived.Test.YtbageimconenlaaGreatE5
namespace Go.Proofs.YtbageimconenlaaGreat
open Go.RowKit
set_option linter.unusedVariables false
namespace En
def memB (n : Nat) : List Nat → Bool
  | [] => false
  | a :: l => Nat.beq a n || memB n l
theorem memB_iff {n : Nat} : ∀ {l : List Nat}, memB n l = true ↔ n ∈ l
  | [] => by simp [memB]
  | a :: l => by
    simp only [memB, Bool.or_eq_true, memB_iff (l := l), List.mem_cons]
    constructor
    · rintro (h | h)
      · exact .inl (Nat.eq_of_beq_eq_true h).symm
      · exact .inr h
    · rintro (h | h)
      · left; subst h; exact Nat.beq_refl n
      · exact .inr h
def tab : List Nat := [0, 1, 2, 3, 4, 5, 6, 7, 8, 9, 10, 11, 12, 13, 14, 15, 16, 17, 18, 19, 20, 21, 22, 23, 24, 25, 26, 27, 28, 29, 30, 31, 32, 33, 34, 35, 36, 37, 38, 39, 40, 41, 42, 43, 44, 45, 46, 47, 48, 49, 50, 51, 52, 53, 54, 55, 56, 57, 58, 59, 60, 61, 62, 63, 64, 65, 66, 67, 68, 69, 70, 71, 72, 73, 74, 75, 76, 77, 78, 79, 80, 81, 82, 83, 84, 85, 86, 87, 88, 89, 90, 91, 92, 93, 94, 95, 96, 97, 98, 99, 100, 101, 102, 103, 104, 105, 106, 107, 108, 109, 110, 111, 112, 113, 114, 115, 116, 117, 118, 119]
def nameW {β : Type} (al : List Nat) : List Nat → List Nat → (Nat → Option β) → Option β
  | _, [], _ => none
  | [], n :: _, k => bif memB n al then none else k n
  | _ :: l, _ :: t, k => nameW al l t k
def nameK {β : Type} (al : List Nat) (k : Nat → Option β) : Option β := nameW al al tab k
theorem nameW_spec {β : Type} {al : List Nat} {k : Nat → Option β} {X : β} : ∀ {l t : List Nat}, nameW al l t k = some X → ∃ n, n ∉ al ∧ k n = some X
  | _, [], h => by simp [nameW] at h
  | [], n :: _, h => by
    simp only [nameW] at h
    cases hm : memB n al with
    | true => rw [hm] at h; cases h
    | false => rw [hm] at h; exact ⟨n, fun hn => (by rw [memB_iff.2 hn] at hm; cases hm), h⟩
  | _ :: l, _ :: t, h => nameW_spec (l := l) (t := t) h
theorem nameK_spec {β : Type} {al : List Nat} {k : Nat → Option β} {X : β} (h : nameK al k = some X) : ∃ n, n ∉ al ∧ k n = some X := nameW_spec h
section
variable {P : Program} {B : Nat}
theorem NB.ptr {al : List Nat} {n o : Nat} (h : n ∈ al) : NB al (.pointer (some ⟨n, o, none⟩)) := fun ρ ρ' ha => by
  show Value.pointer (some (rA ρ ⟨n, o, none⟩)) = .pointer (some (rA ρ' ⟨n, o, none⟩))
  simp only [rA, ha n h]
theorem Does.newRow {o : Oper} {R : Req} {n : Nat} {t : TypeId} {C : List Value} (hn : ∀ al, RNB al R → ∀ v ∈ C, NBc al v)
    (h : ∀ ρ a w, Met B ρ R a w → (execOp a.eval o).run P w = .ok (.value (.pointer (some ⟨w.heap.size, 0, none⟩))) (w.alloc (.cells (rL ρ C).toArray t))) :
    Does P B o R ⟨.pointer (some ⟨n, 0, none⟩), [], [(n, .row t C)]⟩ := by
  refine .of (fun al hr => ⟨NB.ptr (by simp), fun n b hb => no_mem hb, fun m b hb u hu => ?_⟩) (fun ρ a w al hm hr hfr K Q hK => .inl ?_)
  · simp only [List.mem_singleton] at hb
    injection hb with e1 e2
    subst e1 e2
    exact (hn al hr u hu).mono fun n hn => List.mem_append_right _ hn
  · have hn' : n ∉ al := hfr n _ List.mem_cons_self
    have hL : rL (upd ρ n (pl4 w.heap.size 0 0 false)) C = rL ρ C := rL_agr (upd_agr ρ _ hn') fun v hv => hn al hr v hv
    have he := Eff.new (B := B) ρ w hm.hB (.pointer (some ⟨n, 0, none⟩)) n t C 0 (.row t C) (boxrow_new ρ w hm.hB n t C)
    rw [hL] at he
    refine wp_value (h ρ a w hm) ?_
    have := hK _ _ he
    have e : rV (upd ρ n (pl4 w.heap.size 0 0 false)) (.pointer (some ⟨n, 0, none⟩)) = .pointer (some ⟨w.heap.size, 0, none⟩) := by
      show Value.pointer (some (rA _ _)) = _
      simp only [rA, upd_same, pl4]
    rw [e] at this
    exact this
def allFC : List Value → Bool
  | [] => true
  | v :: l => flatC v && allFC l
theorem allFC_spec : ∀ {l : List Value}, allFC l = true → ∀ v ∈ l, flatC v = true
  | u :: l, h, v, hv => by
    simp only [allFC, Bool.and_eq_true] at h
    rcases List.mem_cons.1 hv with e | e
    · subst e; exact h.1
    · exact allFC_spec h.2 v e
theorem rL_flat (ρ : (Nat → Pl)) {l : List Value} (h : allFC l = true) : rL ρ l = l := by
  have : ∀ {l : List Value}, (∀ v ∈ l, flatC v = true) → l.map (rC ρ) = l := by
    intro l
    induction l with
    | nil => intro _; rfl
    | cons v l ih =>
      intro h
      rw [List.map_cons, rC_flat ρ (h v List.mem_cons_self), ih fun u hu => h u (List.mem_cons_of_mem _ hu)]
  exact this (allFC_spec h)
theorem NBc.flat {al : List Nat} {v : Value} (h : flatC v = true) : NBc al v := fun ρ ρ' _ => by rw [rC_flat ρ h, rC_flat ρ' h]
def aalloc (tb : (List (Nat × TI))) (s : St) (t : TypeId) : Option (Req × Plan) :=
  match lk tb t with
  | some ti => bif allFC ti.zero then nameK s.al fun n => some (⟨[], []⟩, ⟨.pointer (some ⟨n, 0, none⟩), [], [(n, .row t ti.zero)]⟩) else none
  | none => none
theorem in_nil {s : St} : In ⟨[], []⟩ s := ⟨fun t v h => absurd h List.not_mem_nil, fun n b h => no_mem h⟩
theorem new_fresh {s : St} {b : Box} {v : Value} {m : Nat} (hm : m ∉ s.al) : ∀ n b', (n, b') ∈ (Plan.mk v [] [(m, b)]).nw → n ∉ s.al := fun n b' hb => by
  simp only [List.mem_singleton] at hb
  injection hb with e1 e2
  subst e1; exact hm
theorem aalloc_does {tb : (List (Nat × TI))} (hT : TbOK P tb) {s : St} {o : Oper} {t : TypeId} {R : Req} {p : Plan} (ho : o.op = .alloc t) (h : aalloc tb s t = some (R, p)) : Does P B o R p ∧ In R s ∧ p.up = [] ∧ ∀ n b, (n, b) ∈ p.nw → n ∉ s.al := by
  unfold aalloc at h
  split at h
  · rename_i ti hti
    obtain ⟨⟨i, z, hi, hsz, hz, hzc⟩, hag, _⟩ := hT.at_ hti
    cases hc : allFC ti.zero with
    | false => rw [hc] at h; cases h
    | true =>
      rw [hc, cond_true] at h
      obtain ⟨nm, hnm, h⟩ := nameK_spec h
      cases h
      refine ⟨Does.newRow (fun al _ v hv => NBc.flat (allFC_spec hc v hv)) fun ρ a w hm => ?_, in_nil, rfl, new_fresh hnm⟩
      rw [rL_flat ρ hc, ← hzc, Array.toArray_toList]
      unfold execOp
      simp only [ho, Instr.alloc, zeroValue, typeInfo, program, newVar, newRow, newObj]
      simp [Sem.run, hi, hz]
  · cases h
def abox (s : St) (t : TypeId) (x : Operand) : Option (Req × Plan) :=
  match ev s x with
  | some v => match vcs v with | some cs => frc cs fun C => rqK s.tm [x] fun l => nameK s.al fun n => some (⟨l, []⟩, ⟨.pointer (some ⟨n, 0, none⟩), [], [(n, .row t C)]⟩) | none => none
  | none => none
theorem abox_does {s : St} {o : Oper} {t : TypeId} {x : Operand} {R : Req} {p : Plan} (ho : o.op = .box t x) (h : abox s t x = some (R, p)) : Does P B o R p ∧ In R s ∧ p.up = [] ∧ ∀ n b, (n, b) ∈ p.nw → n ∉ s.al := by
  unfold abox at h
  split at h
  · rename_i v hx
    split at h
    · rename_i cs hv
      rw [frc_eq, rqK_eq] at h
      obtain ⟨nm, hnm, h⟩ := nameK_spec h
      cases h
      refine ⟨Does.newRow (fun al hr => vcs_nb hv (ev_nb hr List.mem_cons_self hx)) fun ρ a w hm => ?_, in_none, rfl, new_fresh hnm⟩
      have hax := ev_eval hm List.mem_cons_self hx
      have hcs := vcs_cells ρ hv
      generalize rV ρ v = y at *
      unfold execOp
      simp only [ho, hax, Instr.box, newVar, newRow, newObj, hcs]
      rfl
    · cases h
  · cases h
def afield (tb : (List (Nat × TI))) (s : St) (t : TypeId) (x : Operand) (f : Nat) : Option (Req × Plan) :=
  match ev s x with
  | some (.pointer (some ⟨nb, no, _⟩)) =>
    match lk tb t with
    | some ⟨_, _, _, .struct pls⟩ =>
      match pls[f]? with
      | some (offs, sz) => bif Nat.beq sz 0 then none else rqK s.tm [x] fun l => some (⟨l, []⟩, ⟨.pointer (some ⟨nb, no + offs, none⟩), [], []⟩)
      | none => none
    | _ => none
  | _ => none
theorem flds_at : ∀ {fs : List Field} {l : List (Nat × Nat)} {j o z : Nat}, flds P fs l = true → l[j]? = some (o, z) → ∃ f i, fs[j]? = some f ∧ f.offset = o ∧ P.info? f.type = some i ∧ i.size = z
  | [], [], j, o, z, _, hj => by simp at hj
  | f :: r, (o', z') :: l, 0, o, z, h, hj => by
    simp only [flds, Bool.and_eq_true] at h
    simp at hj
    obtain ⟨rfl, rfl⟩ := hj
    have h1 := h.1
    split at h1
    · rename_i i hi
      simp only [Bool.and_eq_true] at h1
      exact ⟨f, i, rfl, Nat.eq_of_beq_eq_true h1.2, hi, Nat.eq_of_beq_eq_true h1.1⟩
    · cases h1
  | f :: r, (o', z') :: l, j + 1, o, z, h, hj => by
    simp only [flds, Bool.and_eq_true] at h
    obtain ⟨f', i, h1, h2⟩ := flds_at h.2 (j := j) (by simpa using hj)
    exact ⟨f', i, by simpa using h1, h2⟩
theorem flds_pls : ∀ {fs : List Field} {l : List (Nat × Nat)}, flds P fs l = true → fs.mapM (fun f => (P.info? f.type).map fun i => (f.offset, i.size)) = some l
  | [], [], _ => rfl
  | f :: r, (o', z') :: l, h => by
    simp only [flds, Bool.and_eq_true] at h
    have h1 := h.1
    have h2 := flds_pls h.2
    split at h1
    · rename_i i hi
      simp only [Bool.and_eq_true] at h1
      have e1 := Nat.eq_of_beq_eq_true h1.1
      have e2 := Nat.eq_of_beq_eq_true h1.2
      simp [List.mapM_cons, hi, h2, e1, e2]
    · cases h1
theorem ptr_nb {al : List Nat} {ad : Addr} (k : Nat) (h : NB al (.pointer (some ad))) : NB al (.pointer (some ⟨ad.block, ad.off + k, none⟩)) := fun ρ ρ' ha => by
  have h1 : Value.pointer (some (rA ρ ad)) = .pointer (some (rA ρ' ad)) := h ρ ρ' ha
  injection h1 with h1
  injection h1 with h1
  simp only [rA] at h1
  injection h1 with h2 h3
  show Value.pointer (some (rA ρ _)) = .pointer (some (rA ρ' _))
  simp only [rA, h2]
  rw [show (ρ ad.block).o + (ad.off + k) = (ρ' ad.block).o + (ad.off + k) by omega]
theorem add_ptr (b o k : Nat) : (⟨b, o, none⟩ : Addr).add k = ⟨b, o + k, none⟩ := by unfold Addr.add; split <;> simp_all
theorem afield_does {tb : (List (Nat × TI))} (hT : TbOK P tb) {s : St} {o : Oper} {t : TypeId} {x : Operand} {f : Nat} {R : Req} {p : Plan} (ho : o.op = .fieldAddr t x f) (h : afield tb s t x f = some (R, p)) : Does P B o R p ∧ In R s ∧ p.up = [] ∧ p.nw = [] := by
  unfold afield at h
  split at h
  · rename_i nb no nsp hx
    split at h
    · rename_i g1 g2 g3 pls hti
      obtain ⟨_, _, hk⟩ := hT.at_ hti
      obtain ⟨fs, hu, hfl⟩ := hk
      split at h
      · rename_i offs sz hf
        obtain ⟨fl, i, hff, hfo, hi, hsz⟩ := flds_at hfl hf
        cases hc : Nat.beq sz 0 with
        | true => rw [hc] at h; cases h
        | false =>
          rw [hc, cond_false, rqK_eq] at h; cases h
          refine ⟨Does.value (fun al hr => ptr_nb (ad := ⟨nb, no, nsp⟩) _ (ev_nb hr List.mem_cons_self hx)) fun ρ a w hm => ?_, in_none, rfl, rfl⟩
          have hax := ev_eval hm List.mem_cons_self hx
          have hne : ¬ i.size = 0 := fun e => by rw [hsz] at e; rw [e] at hc; cases hc
          have hf' : fs[f]? = some fl := by simpa using hff
          have hxr : rV ρ (.pointer (some ⟨nb, no, nsp⟩)) = .pointer (some ⟨(ρ nb).b, (ρ nb).o + no, none⟩) := rfl
          have hvr : rV ρ (.pointer (some ⟨nb, no + offs, none⟩)) = .pointer (some ⟨(ρ nb).b, (ρ nb).o + (no + offs), none⟩) := rfl
          unfold execOp
          simp only [ho, hax, hxr, hvr, Instr.fieldAt, Sem.run_bind, run_underlying hu, Result.andThen_ok, hf', Instr.sureAddr, Sem.run_pure, fieldPlace, sizeOf, typeInfo, program]
          simp [Sem.run, hi, hne, add_ptr, Nat.add_assoc, hfo]
      · cases h
    · cases h
  · cases h
def fillL (pf : Nat → Option (Nat × Nat)) : List Value → List (Nat × List Value) → (List Value → Option (Req × Plan)) → Option (Req × Plan)
  | C, [], k => k C
  | C, (i, vs) :: r, k => match pf i with
    | some (off, sz) => bif Nat.beq vs.length sz && Nat.ble (off + sz) C.length then frc (spl C off vs) fun C' => fillL pf C' r k else none
    | none => none
theorem zip_spl {C vs : List Value} {off : Nat} (h : off + vs.length ≤ C.length) : vs.toArray.zipIdx.foldl (fun cs (x : Value × Nat) => cs.setIfInBounds (off + x.2) x.1) C.toArray = (spl C off vs).toArray := by
  rw [← Array.foldl_toList, Array.toList_zipIdx]
  obtain ⟨h1, h2⟩ := Go.Great.foldl_set off vs 0 C.toArray
  refine Array.ext_getElem? fun k => ?_
  show ((vs.zipIdx 0).foldl _ C.toArray)[k]? = _
  rw [h2 k, List.getElem?_toArray, List.getElem?_toArray, spl_eq h, Nat.add_zero, List.append_assoc]
  simp only [List.size_toArray]
  by_cases hk : k < off
  · rw [if_neg (by omega), List.getElem?_append_left (by simp; omega), List.getElem?_take, if_pos hk]
  · rw [List.getElem?_append_right (by simp; omega)]
    have hl : (C.take off).length = off := by simp; omega
    rw [hl]
    by_cases hv : k - off < vs.length
    · rw [if_pos (by omega), List.getElem?_append_left hv]
    · rw [if_neg (by omega), List.getElem?_append_right (by omega), List.getElem?_drop]
      congr 1; omega
theorem fillL_spec {pf : Nat → Option (Nat × Nat)} (ρ : (Nat → Pl)) {k : List Value → Option (Req × Plan)} {X : Req × Plan} : ∀ {parts : List (Nat × Value)} {pl : List (Nat × List Value)} {C : List Value}, parts.length = pl.length → (∀ (j i : Nat) (v : Value), parts[j]? = some (i, v) → ∃ vs : List Value, pl[j]? = some (i, vs) ∧ v.cells = (rL ρ vs).toArray) →
    fillL pf C pl k = some X → ∃ C', k C' = some X ∧ Instr.fill pf (rL ρ C).toArray parts = some (rL ρ C').toArray ∧ ∀ v ∈ C', v ∈ C ∨ ∃ i vs, (i, vs) ∈ pl ∧ v ∈ vs
  | [], [], C, _, _, h => ⟨C, h, rfl, fun v hv => .inl hv⟩
  | (i, v) :: parts, (i', vs) :: pl, C, hl, hp, h => by
    obtain ⟨vs', h0, hv⟩ := hp 0 i v rfl
    simp at h0
    obtain ⟨rfl, rfl⟩ := h0
    simp only [fillL] at h
    split at h
    · rename_i off sz hpf
      cases hc : (Nat.beq vs.length sz && Nat.ble (off + sz) C.length) with
      | false => rw [hc] at h; cases h
      | true =>
        rw [hc, cond_true, frc_eq] at h
        simp only [Bool.and_eq_true] at hc
        have hsz := Nat.eq_of_beq_eq_true hc.1
        have hle := Nat.le_of_ble_eq_true hc.2
        subst hsz
        obtain ⟨C', h1, h2, h3⟩ := fillL_spec ρ (parts := parts) (pl := pl) (C := spl C off vs) (by simpa using hl) (fun j i v hj => by simpa using hp (j + 1) i v (by simpa using hj)) h
        refine ⟨C', h1, ?_, fun u hu => ?_⟩
        · unfold Instr.fill
          simp only [hpf, hv]
          rw [if_neg (by simp [rL_len]; omega)]
          rw [zip_spl (by rw [rL_len, rL_len]; exact hle), ← rL_spl ρ hle]
          exact h2
        · rcases h3 u hu with h | ⟨i, vs, h, hm⟩
          · rcases spl_mem hle h with h | h
            · exact .inl h
            · exact .inr ⟨_, _, List.mem_cons_self, h⟩
          · exact .inr ⟨i, vs, List.mem_cons_of_mem _ h, hm⟩
    · cases h
def pcs (s : St) : List (Nat × Operand) → Option (List (Nat × List Value))
  | [] => some []
  | (i, x) :: r => match ev s x with
    | some v => match vcs v, pcs s r with | some cs, some l => some ((i, cs) :: l) | _, _ => none
    | none => none
def abuild (tb : (List (Nat × TI))) (s : St) (t : TypeId) (parts : List (Nat × Operand)) : Option (Req × Plan) :=
  match pcs s parts, lk tb t with
  | some pl, some ⟨_, _, zero, k⟩ =>
    bif allFC zero then
      match k with
      | .struct l => fillL (l[·]?) zero pl fun C' => rqK s.tm (parts.map (·.2)) fun rl => some (⟨rl, []⟩, ⟨.agg C'.toArray, [], []⟩)
      | .array _ es => fillL (fun i => some (i * es, es)) zero pl fun C' => rqK s.tm (parts.map (·.2)) fun rl => some (⟨rl, []⟩, ⟨.agg C'.toArray, [], []⟩)
      | _ => none
    else none
  | _, _ => none
theorem pcs_spec {s : St} : ∀ {parts : List (Nat × Operand)} {pl : List (Nat × List Value)}, pcs s parts = some pl → parts.length = pl.length ∧ ∀ (j i : Nat) (x : Operand), parts[j]? = some (i, x) → ∃ (v : Value) (vs : List Value), ev s x = some v ∧ vcs v = some vs ∧ pl[j]? = some (i, vs)
  | [], pl, h => by cases h; exact ⟨rfl, fun j i x hj => by simp at hj⟩
  | (i, x) :: r, pl, h => by
    simp only [pcs] at h
    split at h
    · rename_i v hv
      split at h
      · rename_i cs l hcs hl
        cases h
        obtain ⟨h1, h2⟩ := pcs_spec hl
        refine ⟨by simp [h1], fun j i' x' hj => ?_⟩
        cases j with
        | zero => simp at hj; obtain ⟨rfl, rfl⟩ := hj; exact ⟨v, cs, hv, hcs, rfl⟩
        | succ j => simpa using h2 j i' x' (by simpa using hj)
      · cases h
    · cases h
theorem abuild_does {tb : (List (Nat × TI))} (hT : TbOK P tb) {s : St} {o : Oper} {t : TypeId} {parts : Array (Nat × Operand)} {R : Req} {p : Plan} (ho : o.op = .build t parts) (h : abuild tb s t parts.toList = some (R, p)) : Does P B o R p ∧ In R s ∧ p.up = [] ∧ p.nw = [] := by
  unfold abuild at h
  split at h
  · rename_i pl g1 g2 zero k hpl hti
    obtain ⟨hlen, hpcs⟩ := pcs_spec hpl
    obtain ⟨⟨it, z, hit, hsz, hz, hzc⟩, _, hk⟩ := hT.at_ hti
    have hzc : z.cells.toList = zero := hzc
    subst hzc
    have hk : KOK P t k := hk
    · cases hc : allFC z.cells.toList with
      | false => rw [hc] at h; cases h
      | true =>
        rw [hc, cond_true] at h
        have main : ∀ (pf : Nat → Option (Nat × Nat)), (∀ parts' : List (Nat × Value), P.built t parts' = Instr.fill pf z.cells parts') →
            fillL pf z.cells.toList pl (fun C' => some (⟨rq s (parts.toList.map (·.2)), []⟩, ⟨.agg C'.toArray, [], []⟩)) = some (R, p) → Does P B o R p ∧ In R s ∧ p.up = [] ∧ p.nw = [] := by
          intro pf hbuilt hfill
          have hall : ∀ ρ : (Nat → Pl), ∃ C', some ((⟨rq s (parts.toList.map (·.2)), []⟩ : Req), (⟨.agg C'.toArray, [], []⟩ : Plan)) = some (R, p) ∧ (∀ a w, Met B ρ R a w → P.built t (parts.toList.map fun x => (x.1, a.eval x.2)) = some (rL ρ C').toArray) ∧ ∀ v ∈ C', v ∈ z.cells.toList ∨ ∃ i vs, (i, vs) ∈ pl ∧ v ∈ vs := by
            intro ρ
            have hv : ∀ (j i : Nat) (x : Operand), parts.toList[j]? = some (i, x) → ∃ (v : Value) (vs : List Value), ev s x = some v ∧ vcs v = some vs ∧ pl[j]? = some (i, vs) := hpcs
            obtain ⟨C', h1, h2, h3⟩ := fillL_spec ρ (parts := parts.toList.map fun x => (x.1, rV ρ ((ev s x.2).getD undef))) (pl := pl) (by simpa using hlen) (fun j i v hj => by
              rw [List.getElem?_map] at hj
              cases hq : parts.toList[j]? with
              | none => rw [hq] at hj; cases hj
              | some q =>
                obtain ⟨qi, qx⟩ := q
                rw [hq] at hj
                simp only [Option.map_some, Option.some.injEq, Prod.mk.injEq] at hj
                obtain ⟨rfl, rfl⟩ := hj
                obtain ⟨v, vs, e1, e2, e3⟩ := hv j qi qx hq
                exact ⟨vs, e3, by rw [e1]; exact vcs_cells ρ e2⟩) hfill
            refine ⟨C', h1, fun a w hm => ?_, h3⟩
            rw [hbuilt]
            rw [rL_flat ρ hc, Array.toArray_toList] at h2
            rw [← h2]
            congr 1
            refine List.map_congr_left fun x hx => ?_
            obtain ⟨j, hj⟩ := List.getElem?_of_mem hx
            obtain ⟨v, vs, e1, e2, e3⟩ := hv j x.1 x.2 hj
            cases h1
            rw [ev_eval hm (List.mem_map.2 ⟨x, hx, rfl⟩) e1, e1]; rfl
          obtain ⟨C', h1, _, h3⟩ := hall fun _ => (pl4 0 0 0 false)
          cases h1
          refine ⟨Does.value (fun al hr ρ ρ' ha => ?_) fun ρ a w hm => ?_, in_none, rfl, rfl⟩
          · show Value.agg (rL ρ C').toArray = .agg (rL ρ' C').toArray
            rw [rL_agr ha fun v hv => ?_]
            rcases h3 v hv with h | ⟨i, vs, h, hm⟩
            · exact NBc.flat (allFC_spec hc v h)
            · obtain ⟨j, hj⟩ := List.getElem?_of_mem h
              have hjl : j < parts.toList.length := by have := (List.getElem?_eq_some_iff.1 hj).1; omega
              obtain ⟨u, us, e1, e2, e3⟩ := hpcs j parts.toList[j].1 parts.toList[j].2 (by rw [List.getElem?_eq_getElem hjl])
              rw [hj] at e3
              cases e3
              exact vcs_nb e2 (ev_nb hr (List.mem_map.2 ⟨_, List.getElem_mem hjl, rfl⟩) e1) v hm
          · obtain ⟨C2, g1, g2, _⟩ := hall ρ
            injection g1 with g1
            injection g1 with g1 g3
            injection g3 with g3
            have hCC : C2 = C' := by
              injection g3 with g3
              simpa using congrArg Array.toList g3
            subst hCC
            have hrun := run_build (P := P) w t (parts.map fun (i, x) => (i, a.eval x)) _ (by rw [Array.toList_map]; exact g2 a w hm)
            unfold execOp
            simp only [ho]
            rw [Sem.run_bind, hrun]; rfl
        cases k with
        | struct l =>
          obtain ⟨fs, hu, hfl⟩ := hk
          simp only [rqK_eq] at h
          refine main _ (fun parts' => ?_) h
          unfold Program.built
          simp only [hit, hu, hz, flds_pls hfl]
          congr 1
          funext x
          simp
        | array n es =>
          obtain ⟨e, ie, hu, hie, hes⟩ := hk
          simp only [rqK_eq] at h
          refine main _ (fun parts' => ?_) h
          unfold Program.built
          simp only [hit, hu, hz, hie, hes]
        | slice e es bytes => cases h
        | other => cases h
  · cases h
end
end En
end Go.Proofs.YtbageimconenlaaGreat
