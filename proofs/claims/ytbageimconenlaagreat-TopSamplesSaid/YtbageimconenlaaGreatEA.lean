/- The engine: slices: an element's address, slice literals, append. No program in sight. -/
import Derived.Test.YtbageimconenlaaGreatE6
import Derived.Great.BuildSlice
namespace Go.Proofs.YtbageimconenlaaGreat
open Go.RowKit
set_option linter.unusedVariables false
namespace En
section
variable {P : Program} {B : Nat}
def nonE : Box → Bool
  | .gone => false
  | .deep _ => false
  | b => match b.cells with | [] => false | _ :: _ => true
theorem nonE_nil {ρ : (Nat → Pl)} {w : World} {n : Nat} {b : Box} (h : BoxOK B ρ w n b) (hb : nonE b = true) : (ρ n).nil = false := by
  have key : ∀ {l : List Value}, b.cells = l → (match l with | [] => false | _ :: _ => true) = true → (ρ n).nil = false := by
    intro l hl hc
    cases l with
    | nil => cases hc
    | cons v l => exact (h.cell (j := 0) (v := v) (by rw [hl]; rfl)).1
  cases b with
  | gone => cases hb
  | deep F => cases hb
  | row t C => exact key rfl hb
  | view k C => exact key rfl hb
  | vec e k C => exact key rfl hb
/-- the address of an element of a slice -/
theorem Does.index {s : St} {o : Oper} {t e : TypeId} {x ix : Operand} {n off len c : Nat} {sp : Option Nat} {b : Box} {k : IntKind} {i : Int} {j es : Nat} {ie : TypeInfo} (ho : o.op = .indexAddr t x ix) (hx : ev s x = some (.slice (some ⟨n, off, sp⟩) len c)) (hix : ev s ix = some (.int k i)) (hu : P.underlying t = some (.slice e)) (hie : P.info? e = some ie) (hes : ie.size = es)
    (hb : nonE b = true) (hij : i = j) (hj : j < len) : Does P B o ⟨rq s [x, ix], [(n, b)]⟩ ⟨.pointer (some ⟨n, off + j * es, none⟩), [], []⟩ := by
  refine Does.value (fun al hr => NB.ptr ((hr.σ n b List.mem_cons_self).1)) fun ρ a w hm => ?_
  have hax := ev_eval hm (x := x) (by simp) hx
  have hai := ev_eval hm (x := ix) (by simp) hix
  have hnil := nonE_nil (hm.σ n b List.mem_cons_self) hb
  have hxr : rV ρ (.slice (some ⟨n, off, sp⟩) len c) = .slice (some ⟨(ρ n).b, (ρ n).o + off, none⟩) len (ρ n).cap := by
    show Value.slice (bif (ρ n).nil then (ρ n).alt else some (rA ρ ⟨n, off, sp⟩)) len _ = _
    rw [hnil]; rfl
  have hir : rV ρ (.int k i) = .int k i := rfl
  have hvr : rV ρ (.pointer (some ⟨n, off + j * es, none⟩)) = .pointer (some ⟨(ρ n).b, (ρ n).o + (off + j * es), none⟩) := rfl
  subst hij hes
  unfold execOp
  simp only [ho, hax, hai, hxr, hir, hvr, Instr.indexAt, asIntOf, Sem.run_bind, Sem.run_pure, Result.andThen_ok, run_underlying hu]
  have h1 : (0 : Int) ≤ j ∧ (j : Int) < len := by omega
  simp [h1, sizeOf, typeInfo, program, Sem.run, hie, add_ptr, Nat.add_assoc]
/-- the address of an element of an array -/
theorem Does.indexA {s : St} {o : Oper} {t e : TypeId} {x ix : Operand} {n off len : Nat} {sp : Option Nat} {k : IntKind} {i : Int} {j es : Nat} {ie : TypeInfo} (ho : o.op = .indexAddr t x ix) (hx : ev s x = some (.pointer (some ⟨n, off, sp⟩))) (hix : ev s ix = some (.int k i)) (hu : P.underlying t = some (.array len e)) (hie : P.info? e = some ie) (hes : ie.size = es)
    (hij : i = j) (hj : j < len) : Does P B o ⟨rq s [x, ix], []⟩ ⟨.pointer (some ⟨n, off + j * es, none⟩), [], []⟩ := by
  refine Does.value (fun al hr => ptr_nb (ad := ⟨n, off, sp⟩) _ (ev_nb hr (x := x) (by simp) hx)) fun ρ a w hm => ?_
  have hax := ev_eval hm (x := x) (by simp) hx
  have hai := ev_eval hm (x := ix) (by simp) hix
  have hxr : rV ρ (.pointer (some ⟨n, off, sp⟩)) = .pointer (some ⟨(ρ n).b, (ρ n).o + off, none⟩) := rfl
  have hir : rV ρ (.int k i) = .int k i := rfl
  have hvr : rV ρ (.pointer (some ⟨n, off + j * es, none⟩)) = .pointer (some ⟨(ρ n).b, (ρ n).o + (off + j * es), none⟩) := rfl
  subst hij hes
  unfold execOp
  simp only [ho, hax, hai, hxr, hir, hvr, Instr.indexAt, asIntOf, Sem.run_bind, Sem.run_pure, Result.andThen_ok, run_underlying hu, Instr.sureAddr]
  have h1 : (0 : Int) ≤ j ∧ (j : Int) < len := by omega
  simp [h1, sizeOf, typeInfo, program, Sem.run, hie, add_ptr, Nat.add_assoc]
def natK {β : Type} (i : Int) (k : Nat → Option β) : Option β := match i with | .ofNat n => k n | .negSucc _ => none
def aindex (tb : (List (Nat × TI))) (s : St) (t : TypeId) (x ix : Operand) : Option (Req × Plan) :=
  match ev s x, ev s ix with
  | some (.slice (some ⟨n, off, _⟩) len _), some (.int _ i) =>
    match lk tb t, lk s.σ n with
    | some ⟨_, _, _, .slice _ es _⟩, some b => natK i fun j => bif Nat.blt j len && nonE b then rqK s.tm [x, ix] fun l => some (⟨l, [(n, b)]⟩, ⟨.pointer (some ⟨n, off + j * es, none⟩), [], []⟩) else none
    | _, _ => none
  | some (.pointer (some ⟨n, off, _⟩)), some (.int _ i) =>
    match lk tb t with
    | some ⟨_, _, _, .array len es⟩ => natK i fun j => bif Nat.blt j len then rqK s.tm [x, ix] fun l => some (⟨l, []⟩, ⟨.pointer (some ⟨n, off + j * es, none⟩), [], []⟩) else none
    | _ => none
  | _, _ => none
theorem natK_spec {β : Type} {i : Int} {k : Nat → Option β} {X : β} (h : natK i k = some X) : ∃ j : Nat, i = j ∧ k j = some X := by
  cases i with
  | ofNat n => exact ⟨n, rfl, h⟩
  | negSucc n => cases h
theorem aindex_does {tb : (List (Nat × TI))} (hT : TbOK P tb) {s : St} {o : Oper} {t : TypeId} {x ix : Operand} {R : Req} {p : Plan} (ho : o.op = .indexAddr t x ix) (h : aindex tb s t x ix = some (R, p)) : Does P B o R p ∧ In R s ∧ p.up = [] ∧ p.nw = [] := by
  unfold aindex at h
  split at h
  · rename_i n off sp len c k i hx hix
    split at h
    · rename_i g1 g2 g3 e es by_ b hti hb
      obtain ⟨_, _, ie, z, hu, hie, hes, _⟩ := hT.at_ hti
      obtain ⟨j, hij, h⟩ := natK_spec h
      cases hc : (Nat.blt j len && nonE b) with
      | false => rw [hc] at h; cases h
      | true =>
        rw [hc, cond_true, rqK_eq] at h; cases h
        simp only [Bool.and_eq_true] at hc
        exact ⟨Does.index ho hx hix hu hie hes hc.2 hij (by simpa using hc.1), in_one hb, rfl, rfl⟩
    · cases h
  · rename_i n off sp k i hx hix
    split at h
    · rename_i g1 g2 g3 len es hti
      obtain ⟨_, _, e, ie, hu, hie, hes⟩ := hT.at_ hti
      obtain ⟨j, hij, h⟩ := natK_spec h
      cases hc : Nat.blt j len with
      | false => rw [hc] at h; cases h
      | true =>
        rw [hc, cond_true, rqK_eq] at h; cases h
        exact ⟨Does.indexA ho hx hix hu hie hes hij (by simpa using hc), in_none, rfl, rfl⟩
    · cases h
  · cases h
/-- a new row behind a slice -/
theorem boxvec_new (ρ : (Nat → Pl)) (w : World) (hB : B ≤ w.heap.size) (n : Nat) (e : TypeId) (k cap : Nat) (C : List Value) (hl : C.length = cap * k) (hm : cap ≤ maxLen) : BoxOK B (upd ρ n (pl4 w.heap.size 0 cap false)) (w.alloc (.cells (rL (upd ρ n (pl4 w.heap.size 0 cap false)) C).toArray e)) n (.vec e k C) := by
  unfold BoxOK
  rw [upd_same]
  refine ⟨hm, .inr ⟨rfl, hB, _, Blk.new w e _, by simp [pl4, rL_len, hl], by simp [pl4, hl], ?_⟩⟩
  simp only [pl4, List.drop_zero]
  rw [List.take_of_length_le (by simp [rL_len])]
theorem NB.slice {al : List Nat} {n o len c : Nat} (h : n ∈ al) : NB al (.slice (some ⟨n, o, none⟩) len c) := fun ρ ρ' ha => by
  show Value.slice (bif (ρ n).nil then (ρ n).alt else some (rA ρ ⟨n, o, none⟩)) len (ρ n).cap = Value.slice (bif (ρ' n).nil then (ρ' n).alt else some (rA ρ' ⟨n, o, none⟩)) len (ρ' n).cap
  simp only [rA, ha n h]
theorem Does.newVec {o : Oper} {R : Req} {n : Nat} {e : TypeId} {k len : Nat} {C : List Value} (hl : C.length = len * k) (hlm : len ≤ maxLen) (hn : ∀ al, RNB al R → ∀ v ∈ C, NBc al v)
    (h : ∀ ρ a w, Met B ρ R a w → (execOp a.eval o).run P w = .ok (.value (.slice (some ⟨w.heap.size, 0, none⟩) len len)) (w.alloc (.cells (rL ρ C).toArray e))) :
    Does P B o R ⟨.slice (some ⟨n, 0, none⟩) len 0, [], [(n, .vec e k C)]⟩ := by
  refine ⟨fun al hr => ⟨NB.slice (by simp), fun n b hb => no_mem hb, fun m b hb u hu => ?_⟩, fun ρ a w al hm hr hfr K Q hK => .inl ?_⟩
  · simp only [List.mem_singleton] at hb
    injection hb with e1 e2
    subst e1 e2
    exact (hn al hr u hu).mono fun n hn => List.mem_append_right _ hn
  · have hn' : n ∉ al := hfr n _ List.mem_cons_self
    have hL : rL (upd ρ n (pl4 w.heap.size 0 len false)) C = rL ρ C := rL_agr (upd_agr ρ _ hn') fun v hv => hn al hr v hv
    have he := Eff.new (B := B) ρ w hm.hB (.slice (some ⟨n, 0, none⟩) len 0) n e C len (.vec e k C) (boxvec_new ρ w hm.hB n e k len C hl hlm)
    rw [hL] at he
    refine wp_value (h ρ a w hm) ?_
    have := hK _ _ he
    have ev : rV (upd ρ n (pl4 w.heap.size 0 len false)) (.slice (some ⟨n, 0, none⟩) len 0) = .slice (some ⟨w.heap.size, 0, none⟩) len len := by
      show Value.slice (bif (upd ρ n (pl4 w.heap.size 0 len false) n).nil then (upd ρ n (pl4 w.heap.size 0 len false) n).alt else some (rA _ _)) len _ = _
      simp only [rA, upd_same]; rfl
    rw [ev] at this
    exact this
def rep (z : List Value) : Nat → List Value
  | 0 => []
  | n + 1 => z ++ rep z n
theorem rep_len (z : List Value) : ∀ n, (rep z n).length = n * z.length
  | 0 => by simp [rep]
  | n + 1 => by rw [rep, List.length_append, rep_len z n, Nat.add_mul]; omega
theorem rep_snoc (z : List Value) : ∀ n, rep z (n + 1) = rep z n ++ z
  | 0 => by simp [rep]
  | n + 1 => by
    show z ++ rep z (n + 1) = (z ++ rep z n) ++ z
    rw [rep_snoc z n, List.append_assoc]
theorem rep_range (z : List Value) : ∀ n, (List.range (n * z.length)).map (fun i => z.toArray[i % z.toArray.size]!) = rep z n
  | 0 => by simp [rep]
  | n + 1 => by
    rw [Nat.add_mul, Nat.one_mul, List.range_add, List.map_append, rep_range z n, rep_snoc]
    congr 1
    refine List.ext_getElem? fun j => ?_
    rw [List.getElem?_map, List.getElem?_map]
    by_cases hj : j < z.length
    · rw [List.getElem?_range hj]
      simp only [Option.map_some, List.size_toArray]
      rw [Nat.mul_add_mod_self_right, Nat.mod_eq_of_lt hj]
      simp [hj]
    · rw [List.getElem?_eq_none (by simpa using hj), List.getElem?_eq_none (by simpa using hj)]; rfl
def abuildSlice (tb : (List (Nat × TI))) (s : St) (t : TypeId) (len : Nat) (parts : List (Nat × Operand)) : Option (Req × Plan) :=
  match pcs s parts, lk tb t with
  | some pl, some ⟨_, _, _, .slice e es _⟩ =>
    match lk tb e with
    | some ⟨_, sz, zero, _⟩ =>
      bif allFC zero && (Nat.beq sz es && (Nat.ble (len * es) 1000 && (Nat.ble len 1000 && Nat.blt 0 es))) then
        frc (rep zero len) fun C0 => fillL (fun i => some (i * es, es)) C0 pl fun C' => bif Nat.beq C'.length (len * es) then rqK s.tm (parts.map (·.2)) fun rl => nameK s.al fun n => some (⟨rl, []⟩, ⟨.slice (some ⟨n, 0, none⟩) len 0, [], [(n, .vec e es C')]⟩) else none
      else none
    | none => none
  | _, _ => none
theorem abuildSlice_does {tb : (List (Nat × TI))} (hT : TbOK P tb) {s : St} {o : Oper} {t : TypeId} {len : Nat} {parts : Array (Nat × Operand)} {R : Req} {p : Plan} (ho : o.op = .buildSlice t len parts) (h : abuildSlice tb s t len parts.toList = some (R, p)) : Does P B o R p ∧ In R s ∧ p.up = [] ∧ ∀ n b, (n, b) ∈ p.nw → n ∉ s.al := by
  unfold abuildSlice at h
  split at h
  · rename_i pl g1 g2 g3 e es by_ hpl hti
    obtain ⟨hlen, hpcs⟩ := pcs_spec hpl
    obtain ⟨_, _, ie, z, hu, hie, hes, _, hz, hzs⟩ := hT.at_ hti
    split at h
    · rename_i g4 sz zero g5 hte
      obtain ⟨⟨ie', z', hie', hsz, hz', hzc⟩, _, _⟩ := hT.at_ hte
      rw [hie] at hie'; cases hie'
      rw [hz] at hz'; cases hz'
      have hzc : z.cells.toList = zero := hzc
      have hsz : ie.size = sz := hsz
      subst hzc
      cases hc : (allFC z.cells.toList && (Nat.beq sz es && (Nat.ble (len * es) 1000 && (Nat.ble len 1000 && Nat.blt 0 es)))) with
      | false => rw [hc] at h; cases h
      | true =>
        rw [hc, cond_true, frc_eq] at h
        simp only [Bool.and_eq_true] at hc
        obtain ⟨c1, c2, c3, c4, c5⟩ := hc
        have c2 := Nat.eq_of_beq_eq_true c2
        have c3 := Nat.le_of_ble_eq_true c3
        have c4 := Nat.le_of_ble_eq_true c4
        have c5 : 0 < es := by simpa using c5
        have hall : ∀ ρ : (Nat → Pl), ∃ C' n, C'.length = len * es ∧ n ∉ s.al ∧ ((⟨rq s (parts.toList.map (·.2)), []⟩ : Req), (⟨.slice (some ⟨n, 0, none⟩) len 0, [], [(n, .vec e es C')]⟩ : Plan)) = (R, p) ∧ (∀ a w, Met B ρ R a w → Instr.fill (fun i => some (i * es, es)) (rep z.cells.toList len).toArray (parts.toList.map fun x => (x.1, a.eval x.2)) = some (rL ρ C').toArray) ∧ ∀ v ∈ C', v ∈ rep z.cells.toList len ∨ ∃ i vs, (i, vs) ∈ pl ∧ v ∈ vs := by
          intro ρ
          obtain ⟨C', h1, h2, h3⟩ := fillL_spec ρ (parts := parts.toList.map fun x => (x.1, rV ρ ((ev s x.2).getD undef))) (pl := pl) (by simpa using hlen) (fun j i v hj => by
            rw [List.getElem?_map] at hj
            cases hq : parts.toList[j]? with
            | none => rw [hq] at hj; cases hj
            | some q =>
              obtain ⟨qi, qx⟩ := q
              rw [hq] at hj
              simp only [Option.map_some, Option.some.injEq, Prod.mk.injEq] at hj
              obtain ⟨rfl, rfl⟩ := hj
              obtain ⟨v, vs, e1, e2, e3⟩ := hpcs j qi qx hq
              exact ⟨vs, e3, by rw [e1]; exact vcs_cells ρ e2⟩) h
          cases hcl : Nat.beq C'.length (len * es) with
          | false => rw [hcl] at h1; cases h1
          | true =>
            rw [hcl, cond_true, rqK_eq] at h1
            obtain ⟨n, hn, h1⟩ := nameK_spec h1
            injection h1 with h1
            refine ⟨C', n, Nat.eq_of_beq_eq_true hcl, hn, h1, fun a w hm => ?_, h3⟩
            have hflat : rL ρ (rep z.cells.toList len) = rep z.cells.toList len := by
              have : ∀ n, rL ρ (rep z.cells.toList n) = rep z.cells.toList n := by
                intro n
                induction n with
                | zero => rfl
                | succ n ih => rw [rep]; unfold rL at ih ⊢; rw [List.map_append, ih]; congr 1; exact rL_flat ρ c1
              exact this len
            rw [hflat] at h2
            rw [← h2]
            congr 1
            refine List.map_congr_left fun x hx => ?_
            obtain ⟨j, hj⟩ := List.getElem?_of_mem hx
            obtain ⟨v, vs, e1, e2, e3⟩ := hpcs j x.1 x.2 hj
            cases h1
            rw [ev_eval hm (List.mem_map.2 ⟨x, hx, rfl⟩) e1, e1]; rfl
        obtain ⟨C', n, hCl, hn, h1, _, h3⟩ := hall fun _ => (pl4 0 0 0 false)
        cases h1
        refine ⟨Does.newVec hCl (by unfold maxLen; omega) (fun al hr v hv => ?_) fun ρ a w hm => ?_, in_none, rfl, new_fresh hn⟩
        · rcases h3 v hv with h | ⟨i, vs, h, hm⟩
          · have : ∀ n, v ∈ rep z.cells.toList n → flatC v = true := by
              intro n
              induction n with
              | zero => intro h; cases h
              | succ n ih =>
                intro h
                rw [rep] at h
                rcases List.mem_append.1 h with h | h
                · exact allFC_spec c1 v h
                · exact ih h
            exact NBc.flat (this len h)
          · obtain ⟨j, hj⟩ := List.getElem?_of_mem h
            have hjl : j < parts.toList.length := by have := (List.getElem?_eq_some_iff.1 hj).1; omega
            obtain ⟨u, us, e1, e2, e3⟩ := hpcs j parts.toList[j].1 parts.toList[j].2 (by rw [List.getElem?_eq_getElem hjl])
            rw [hj] at e3
            cases e3
            exact vcs_nb e2 (ev_nb hr (List.mem_map.2 ⟨_, List.getElem_mem hjl, rfl⟩) e1) v hm
        · obtain ⟨C2, n2, g0, gn, g1, g2, _⟩ := hall ρ
          injection g1 with g1 g3
          injection g3 with g4 g5 g6
          have hCC : C2 = C' := by
            injection g6 with g6 _
            injection g6 with _ g6
            injection g6
          subst hCC
          have hzl : z.cells.toList.length = es := by simpa using hzs
          have hbase : (Array.range (len * ie.size)).map (z.cells[· % z.cells.size]!) = (rep z.cells.toList len).toArray := by
            have h9 := rep_range z.cells.toList len
            rw [Array.toArray_toList, hzl] at h9
            rw [hes]
            refine Array.ext' ?_
            rw [Array.toList_map, Array.toList_range, h9]
          unfold execOp
          simp only [ho]
          rw [Sem.run_bind]
          have hrun : (Instr.buildSlice t len (parts.map fun (i, x) => (i, a.eval x))).run P w = .ok (.slice (some ⟨w.heap.size, 0, none⟩) len len) (w.alloc (.cells (rL ρ C2).toArray e)) := by
            have hf := g2 a w hm
            have hp : (parts.map fun (i, x) => (i, a.eval x)).toList = parts.toList.map fun x => (x.1, a.eval x.2) := by rw [Array.toList_map]
            by_cases h0 : len = 0
            · subst h0
              have hC : C2 = [] := List.eq_nil_of_length_eq_zero (by simpa using hCl)
              subst hC
              have hf' : Instr.fill (fun i => some (i * es, es)) #[] (parts.toList.map fun x => (x.1, a.eval x.2)) = some #[] := hf
              unfold Instr.buildSlice
              simp [run_underlying hu, sizeOf, typeInfo, hie, hes, newRow, newObj, rL]
              have h0 : Array.map (fun (x : Nat) => (default : Value)) (Array.range 0) = #[] := by simp
              rw [h0, hf']
              simp [Sem.run]
            · refine run_buildSlice (P := P) w t e len _ (rL ρ C2).toArray ie z hu hie hz (by rw [hes]; omega) (by rw [hes]; intro hh; rcases Nat.mul_eq_zero.1 hh with h | h <;> omega) ?_
              rw [hbase, hp, hes]; exact hf
          rw [hrun]; rfl
    · cases h
  · cases h
/-- what a slice that is appended to must be -/
inductive OldS (s : St) (x : Operand) (e es : Nat) (σ : List (Nat × Box)) : Nat → List Value → List (Nat × Box) → Prop
  | nil (h : ev s x = some (.slice none 0 0)) : OldS s x e es σ 0 [] []
  | vec {nx len c : Nat} {sp : Option Nat} {C : List Value} (h : ev s x = some (.slice (some ⟨nx, 0, sp⟩) len c)) (hb : (nx, .vec e es C) ∈ σ) (hl : len * es ≤ C.length) : OldS s x e es σ len (C.take (len * es)) [(nx, .gone)]
/-- what is appended -/
inductive NewS (s : St) (y : Operand) (es : Nat) (σ : List (Nat × Box)) : Nat → List Value → Prop
  | nil {c : Nat} (h : ev s y = some (.slice none 0 c)) : NewS s y es σ 0 []
  | box {ny oy m c : Nat} {sp : Option Nat} {b : Box} {news : List Value} (h : ev s y = some (.slice (some ⟨ny, oy, sp⟩) m c)) (hb : (ny, b) ∈ σ) (hc : ∀ j v, news[j]? = some v → b.cells[oy + j]? = some v) (hl : news.length = m * es) : NewS s y es σ m news
theorem Does.append {s : St} {o : Oper} {c : Call} {t e : TypeId} {x y : Operand} {ie : TypeInfo} {z : Value} {es bytes len m q : Nat} {xs news : List Value} {up σ : List (Nat × Box)} (ho : o.op = .call c) (hcal : c.callee = .builtin .append) (hargs : c.args = #[x, y]) (hty : c.argTypes = #[t, t])
    (hu : P.underlying t = some (.slice e)) (hie : P.info? e = some ie) (hes : ie.size = es) (hby : ie.bytes = bytes) (hz : ie.zero = some z) (hzs : z.cells.size = es) (hes0 : 0 < es)
    (hx : OldS s x e es σ len xs up) (hy : NewS s y es σ m news) (h1 : ∀ u ∈ news, oneC u = true) (h63 : len + m ≤ maxLen) (hbt : (len + m) * bytes ≤ 140737488355328) :
    Does P B o ⟨rq s [x, y], σ⟩ ⟨.slice (some ⟨q, 0, none⟩) (len + m) 0, up, [(q, .vec e es (xs ++ news))]⟩ := by
  have hnl : news.length = m * es := by cases hy <;> simp_all
  have hxl : xs.length = len * es := by
    cases hx with
    | nil => simp
    | vec h hb hl => simp [hl]
  have hcells : ∀ al, RNB al ⟨rq s [x, y], σ⟩ → ∀ v ∈ xs ++ news, NBc al v := by
    intro al hr v hv
    rcases List.mem_append.1 hv with hv | hv
    · cases hx with
      | nil => cases hv
      | vec h hb hl => exact (hr.σ _ _ hb).2 v (List.mem_of_mem_take hv)
    · cases hy with
      | nil => cases hv
      | box h hb hc hl =>
        obtain ⟨j, hj⟩ := List.getElem?_of_mem hv
        exact (hr.σ _ _ hb).2 v (List.mem_of_getElem? (hc j v hj))
  refine ⟨fun al hr => ⟨NB.slice (by simp), fun n b hb => ?_, fun n b hb u hu => ?_⟩, fun ρ a w al hm hr hfr K Q hK => .inl ?_⟩
  · have hg : b = .gone := by
      cases hx with
      | nil => cases hb
      | vec h hb' hl => simp at hb; exact hb.2
    subst hg
    intro v hv; cases hv
  · simp only [List.mem_singleton] at hb
    injection hb with e1 e2
    subst e1 e2
    exact (hcells al hr u hu).mono fun n hn => List.mem_append_right _ hn
  · have hq : q ∉ al := hfr q _ List.mem_cons_self
    have hax : ∃ v, a.eval x = v ∧ OwnK w B e es v len (rL ρ xs) ∧ (∀ g, v.ownBlock = some g → ∃ nx, (nx, Box.gone) ∈ up ∧ (ρ nx).nil = false ∧ (ρ nx).b = g) := by
      cases hx with
      | nil h => exact ⟨_, ev_eval hm (by simp) h, OwnK.nil_ w B e es, fun g hg => by cases hg⟩
      | @vec nx _ c0 sp C h hb hl =>
        have hbx := hm.σ _ _ hb
        obtain ⟨b1, b2⟩ := hbx
        refine ⟨_, ev_eval hm (by simp) h, ?_, ?_⟩
        · rcases b2 with ⟨n1, n2, n3⟩ | ⟨n1, n2, cur, n3, n4, n5, n6⟩
          · have hl0 : len = 0 := by
              rw [n3] at hl
              have hl2 : len * es ≤ 0 := hl
              rcases Nat.eq_zero_or_pos len with h | h
              · exact h
              · have := Nat.mul_pos h hes0; omega
            have h9 : rV ρ (.slice (some ⟨nx, 0, sp⟩) len c0) = .slice none 0 0 := by
              show Value.slice (bif (ρ nx).nil then (ρ nx).alt else some (rA ρ ⟨nx, 0, sp⟩)) len (ρ nx).cap = _
              rw [n1, n2.1, n2.2, hl0]; rfl
            rw [h9, n3, hl0]
            simp only [List.take_nil]
            exact OwnK.nil_ w B e es
          · have : rV ρ (.slice (some ⟨nx, 0, sp⟩) len c0) = .slice (some ⟨(ρ nx).b, (ρ nx).o, none⟩) len (ρ nx).cap := by
              show Value.slice (bif (ρ nx).nil then (ρ nx).alt else some (rA ρ ⟨nx, 0, sp⟩)) len (ρ nx).cap = _
              rw [n1]; rfl
            rw [this]
            have hle : len ≤ (ρ nx).cap := Nat.le_of_mul_le_mul_right (Nat.le_trans hl n5) hes0
            refine ⟨by rw [rL_len]; exact hxl, .inr ⟨_, _, _, cur, rfl, n2, n3, hle, b1, n4, ?_⟩⟩
            have h6 := congrArg (fun l : List Value => l.take (len * es)) n6
            simp only [List.take_take, Nat.min_eq_left hl] at h6
            rw [h6]; simp [rL, List.map_take]
        · intro g hg
          refine ⟨nx, List.mem_cons_self, ?_⟩
          cases hn : (ρ nx).nil with
          | true =>
            have halt : (ρ nx).alt = none := by
              rcases (hm.σ _ _ hb).2 with ⟨_, n2, _⟩ | ⟨n1, _⟩
              · exact n2.2
              · rw [hn] at n1; cases n1
            have : rV ρ (.slice (some ⟨nx, 0, sp⟩) len c0) = .slice none len (ρ nx).cap := by
              show Value.slice (bif (ρ nx).nil then (ρ nx).alt else some (rA ρ ⟨nx, 0, sp⟩)) len (ρ nx).cap = _
              rw [hn, halt]; rfl
            rw [this] at hg; cases hg
          | false =>
            have : rV ρ (.slice (some ⟨nx, 0, sp⟩) len c0) = .slice (some ⟨(ρ nx).b, (ρ nx).o, none⟩) len (ρ nx).cap := by
              show Value.slice (bif (ρ nx).nil then (ρ nx).alt else some (rA ρ ⟨nx, 0, sp⟩)) len (ρ nx).cap = _
              rw [hn]; rfl
            rw [this] at hg
            injection hg with hg
            exact ⟨rfl, hg⟩
    have hay : ∃ A c', a.eval y = .slice A m c' ∧ SlK w w.heap.size A m es (rL ρ news) := by
      cases hy with
      | @nil c0 h => exact ⟨none, c0, ev_eval hm (by simp) h, SlK.none_⟩
      | @box ny oy m' c0 sp b news' h hb hc hl =>
        refine ⟨_, _, ev_eval hm (by simp) h, by rw [rL_len]; exact hnl, fun hm0 => ?_⟩
        have hbx := hm.σ _ _ hb
        have h0 : 0 < news.length := by rw [hnl]; exact Nat.mul_pos hm0 hes0
        have hj0 : news[0]? = some news[0] := by simp [h0]
        have hcell := hbx.cell (hc 0 _ hj0)
        refine ⟨(ρ ny).b, (ρ ny).o + oy, ?_, cell_lt hcell.2, fun i u hu => ?_⟩
        · show (bif (ρ ny).nil then (ρ ny).alt else some (rA ρ ⟨ny, oy, sp⟩)) = _
          rw [hcell.1]; rfl
        · unfold rL at hu
          rw [List.getElem?_map] at hu
          cases hn : news[i]? with
          | none => rw [hn] at hu; cases hu
          | some v =>
            rw [hn] at hu; cases hu
            rw [Nat.add_assoc]
            exact (hbx.cell (hc i v hn)).2
    obtain ⟨v, hxv, hown, hob⟩ := hax
    obtain ⟨A, c', hyv, hsl⟩ := hay
    obtain ⟨v', w', hrun, hown', hgr, hob'⟩ := run_appendK (P := P) w B t o.type e ie z es bytes hu hie hz hes hby hzs hes0 v len (rL ρ xs) hown w.heap.size A m c' (rL ρ news) hsl (fun u hu => by
      obtain ⟨p, hp, rfl⟩ := List.mem_map.1 hu
      exact one_oneCell (rC_one ρ (h1 p hp))) h63 hbt hm.hB
    have hexec : (execOp a.eval o).run P w = .ok (.value v') w' := by
      unfold execOp
      simp only [ho, resolve, hcal, hargs, hty, invoke, builtin, Sem.run_bind, Sem.run_pure, Result.andThen_ok, List.map_toArray, List.map_cons, List.map_nil, hxv, hyv, hrun]
    have hLc : rL ρ xs ++ rL ρ news = rL ρ (xs ++ news) := by simp [rL]
    rw [hLc] at hown'
    have hkeep : ∀ g, g < w.heap.size → (∀ n b, (n, b) ∈ up → (ρ n).nil = false → g ≠ (ρ n).b) → w'.heap[g]? = w.heap[g]? := fun g hg hk => hgr.block g hg fun e => by
      obtain ⟨nx, h2, h3, h4⟩ := hob g e.symm
      exact hk nx _ h2 h3 h4.symm
    have main : ∀ pl : Pl, v' = .slice (bif pl.nil then pl.alt else some ⟨pl.b, pl.o, none⟩) (len + m) pl.cap → BoxOK B (upd ρ q pl) w' q (.vec e es (xs ++ news)) → (pl.nil = false → v'.ownBlock = some pl.b) → o.wp P a w K Q := by
      intro pl hv' hbox hown2
      refine wp_value hexec ?_
      have heff : Eff B ρ w ⟨.slice (some ⟨q, 0, none⟩) (len + m) 0, up, [(q, .vec e es (xs ++ news))]⟩ (upd ρ q pl) w' := by
        refine ⟨hgr.os, hgr.tape, hgr.output, hgr.size, hkeep, fun n hn => upd_other ρ pl (by rintro rfl; exact hn _ List.mem_cons_self), fun n b hb => ?_, fun n b hb => ?_, fun n b hb gh hs => ?_, fun n b n2 b2 hb hb2 hne => ?_⟩
        · have : b = .gone := by
            cases hx with
            | nil => cases hb
            | vec h hb' hl => simp at hb; exact hb.2
          subst this; trivial
        · simp only [List.mem_singleton] at hb
          injection hb with e1 e2
          subst e1 e2
          exact hbox
        · simp only [List.mem_singleton] at hb
          injection hb with e1 e2
          subst e1 e2
          have hs : (upd ρ n pl n).nil = false ∧ (upd ρ n pl n).b = gh := hs
          rw [upd_same] at hs
          have h5 := hown2 hs.1
          rcases hob' with h6 | h6
          · rw [h5] at h6
            obtain ⟨nx, h2, h3, h4⟩ := hob _ h6.symm
            exact .inr ⟨nx, _, h2, h3, by rw [← hs.2]; exact h4.symm⟩
          · rw [h5] at h6
            injection h6 with h6
            exact .inl (by rw [← hs.2]; omega)
        · simp only [List.mem_singleton] at hb hb2
          injection hb with e1 _
          injection hb2 with e3 _
          exact absurd (e1.trans e3.symm) hne
      have := hK _ _ heff
      have hv : rV (upd ρ q pl) (.slice (some ⟨q, 0, none⟩) (len + m) 0) = v' := by
        rw [hv']
        show Value.slice (bif (upd ρ q pl q).nil then (upd ρ q pl q).alt else some (rA _ _)) (len + m) (upd ρ q pl q).cap = _
        simp only [rA, upd_same]; rfl
      rw [hv] at this
      exact this
    have hLq : ∀ pl : Pl, rL (upd ρ q pl) (xs ++ news) = rL ρ (xs ++ news) := fun pl => rL_agr (upd_agr ρ pl hq) fun v hv => hcells al hr v hv
    rcases hown'.2 with ⟨hv', h0⟩ | ⟨g, og, cap, cur, hv', hBg, hg, hcap, hcm, hfit, htk⟩
    · refine main (pl4 0 0 0 true) (by rw [hv', h0]; rfl) ?_ (fun h => by cases h)
      unfold BoxOK
      rw [upd_same]
      refine ⟨Nat.zero_le _, .inl ⟨rfl, ⟨rfl, rfl⟩, ?_⟩⟩
      refine List.eq_nil_of_length_eq_zero ?_
      have := hown'.1
      rw [rL_len, h0] at this
      simpa using this
    · refine main (pl4 g og cap false) (by rw [hv']; rfl) ?_ (fun _ => by rw [hv']; rfl)
      unfold BoxOK
      rw [upd_same]
      have hlen := hown'.1
      rw [rL_len] at hlen
      refine ⟨hcm, .inr ⟨rfl, hBg, cur, hg, hfit, by rw [hlen]; exact Nat.mul_le_mul_right _ hcap, ?_⟩⟩
      rw [hLq, hlen]
      exact htk
def appArgs (c : Call) : Option (Operand × Operand × TypeId) :=
  match c.callee with
  | .builtin .append => match c.args.toList, c.argTypes.toList with | [x, y], [t, t'] => bif Nat.beq t t' then some (x, y, t) else none | _, _ => none
  | _ => none
theorem appArgs_spec {c : Call} {x y : Operand} {t : TypeId} (h : appArgs c = some (x, y, t)) : c.callee = .builtin .append ∧ c.args = #[x, y] ∧ c.argTypes = #[t, t] := by
  unfold appArgs at h
  split at h
  · rename_i hcal
    split at h
    · rename_i x' y' t' t2 ha ht
      cases hb : Nat.beq t' t2 with
      | false => rw [hb] at h; cases h
      | true =>
        rw [hb] at h
        cases h
        have := Nat.eq_of_beq_eq_true hb
        subst this
        exact ⟨hcal, by rw [← Array.toArray_toList (xs := c.args), ha], by rw [← Array.toArray_toList (xs := c.argTypes), ht]⟩
    · cases h
  · cases h
def newsO (s : St) (ya : Option Addr) (m es : Nat) (k : List Value → List (Nat × Box) → Option (Req × Plan)) : Option (Req × Plan) :=
  match ya with
  | none => bif Nat.beq m 0 then k [] [] else none
  | some ⟨ny, oy, _⟩ => match lk s.σ ny with
    | some b => frc ((b.cells.drop oy).take (m * es)) fun cs => bif Nat.beq cs.length (m * es) && allOne cs then k cs [(ny, b)] else none
    | none => none
def oldsO (s : St) (xa : Option Addr) (len c e es : Nat) (k : List Value → List (Nat × Box) → List (Nat × Box) → Option (Req × Plan)) : Option (Req × Plan) :=
  match xa with
  | none => bif Nat.beq len 0 && Nat.beq c 0 then k [] [] [] else none
  | some ⟨nx, ox, _⟩ => match lk s.σ nx with
    | some (.vec e' k' C) => bif Nat.beq ox 0 && (Nat.beq e' e && (Nat.beq k' es && Nat.ble (len * es) C.length)) then frc (C.take (len * es)) fun xs => k xs [(nx, .gone)] [(nx, .vec e' k' C)] else none
    | _ => none
def aappend (tb : (List (Nat × TI))) (s : St) (x y : Operand) (t : TypeId) : Option (Req × Plan) :=
  match ev s x, ev s y, lk tb t with
  | some (.slice xa len c), some (.slice ya m _), some ⟨_, _, _, .slice e es bytes⟩ =>
    bif Nat.blt 0 es && (Nat.ble (len + m) 9223372036854775807 && Nat.ble ((len + m) * bytes) 140737488355328) then
      oldsO s xa len c e es fun xs up σ1 => newsO s ya m es fun news σ2 => consK' xs news fun C => rqK s.tm [x, y] fun l => nameK s.al fun q => some (⟨l, σ1 ++ σ2⟩, ⟨.slice (some ⟨q, 0, none⟩) (len + m) 0, up, [(q, .vec e es C)]⟩)
    else none
  | _, _, _ => none
  where consK' {β : Type} : List Value → List Value → (List Value → β) → β
  | [], ys, k => k ys
  | x :: xs, ys, k => consK' xs ys fun l => k (x :: l)
theorem consK'_eq {β : Type} : ∀ (xs ys : List Value) (k : List Value → β), aappend.consK' xs ys k = k (xs ++ ys)
  | [], ys, k => rfl
  | x :: xs, ys, k => consK'_eq xs ys _
theorem aappend_does {tb : (List (Nat × TI))} (hT : TbOK P tb) {s : St} {o : Oper} {c : Call} {x y : Operand} {t : TypeId} {R : Req} {p : Plan} (ho : o.op = .call c) (hc : appArgs c = some (x, y, t)) (h : aappend tb s x y t = some (R, p)) :
    Does P B o R p ∧ In R s ∧ (∀ n b, (n, b) ∈ p.up → ∃ b0, (n, b0) ∈ R.σ ∧ kindOK b0 b = true) ∧ (∀ n b, (n, b) ∈ p.up → b = .gone) ∧ ∀ n b, (n, b) ∈ p.nw → n ∉ s.al := by
  obtain ⟨hcal, hargs, htys⟩ := appArgs_spec hc
  unfold aappend at h
  split at h
  · rename_i xa len c0 ya m c1 g1 g2 g3 e es bytes hx hy hti
    obtain ⟨_, _, ie, z, hu, hie, hes, hby, hz, hzs⟩ := hT.at_ hti
    cases hcc : (Nat.blt 0 es && (Nat.ble (len + m) 9223372036854775807 && Nat.ble ((len + m) * bytes) 140737488355328)) with
    | false => rw [hcc] at h; cases h
    | true =>
      rw [hcc, cond_true] at h
      simp only [Bool.and_eq_true] at hcc
      obtain ⟨k1, k2, k3⟩ := hcc
      have k1 : 0 < es := by simpa using k1
      have k2 : len + m ≤ maxLen := by have := Nat.le_of_ble_eq_true k2; simp only [maxLen]; omega
      have k3 := Nat.le_of_ble_eq_true k3
      have hnews : ∀ {k : List Value → List (Nat × Box) → Option (Req × Plan)}, newsO s ya m es k = some (R, p) → ∃ news σ2, k news σ2 = some (R, p) ∧ (∀ σ, (∀ q ∈ σ2, q ∈ σ) → NewS s y es σ m news) ∧ (∀ n b, (n, b) ∈ σ2 → lk s.σ n = some b) ∧ ∀ u ∈ news, oneC u = true := by
        intro k hk
        unfold newsO at hk
        split at hk
        · cases hm : Nat.beq m 0 with
          | false => rw [hm] at hk; cases hk
          | true =>
            rw [hm] at hk
            have h0 := Nat.eq_of_beq_eq_true hm
            subst h0
            exact ⟨[], [], hk, fun σ _ => .nil hy, fun n b h => no_mem h, fun u hu => by cases hu⟩
        · rename_i ny oy sp
          split at hk
          · rename_i b hb
            rw [frc_eq] at hk
            cases hm : (Nat.beq ((b.cells.drop oy).take (m * es)).length (m * es) && allOne ((b.cells.drop oy).take (m * es))) with
            | false => rw [hm] at hk; cases hk
            | true =>
              rw [hm, cond_true] at hk
              simp only [Bool.and_eq_true] at hm
              refine ⟨_, _, hk, fun σ hσ => .box hy (hσ _ List.mem_cons_self) (fun j v hv => ?_) (Nat.eq_of_beq_eq_true hm.1), fun n b' h => ?_, allOne_spec hm.2⟩
              · rw [List.getElem?_take] at hv
                split at hv
                · rw [List.getElem?_drop] at hv; exact hv
                · cases hv
              · simp at h; obtain ⟨rfl, rfl⟩ := h; exact hb
          · cases hk
      have holds : ∀ {k : List Value → List (Nat × Box) → List (Nat × Box) → Option (Req × Plan)}, oldsO s xa len c0 e es k = some (R, p) → ∃ xs up σ1, k xs up σ1 = some (R, p) ∧ (∀ σ, (∀ q ∈ σ1, q ∈ σ) → OldS s x e es σ len xs up) ∧ (∀ n b, (n, b) ∈ σ1 → lk s.σ n = some b) ∧ (∀ n b, (n, b) ∈ up → ∃ b0, (n, b0) ∈ σ1 ∧ kindOK b0 b = true) ∧ (∀ n b, (n, b) ∈ up → b = .gone) := by
        intro k hk
        unfold oldsO at hk
        split at hk
        · cases hm : (Nat.beq len 0 && Nat.beq c0 0) with
          | false => rw [hm] at hk; cases hk
          | true =>
            rw [hm] at hk
            simp only [Bool.and_eq_true] at hm
            have h0 := Nat.eq_of_beq_eq_true hm.1
            have h1 := Nat.eq_of_beq_eq_true hm.2
            subst h0 h1
            exact ⟨[], [], [], hk, fun σ _ => .nil hx, fun n b h => no_mem h, fun n b h => no_mem h, fun n b h => no_mem h⟩
        · rename_i nx ox sp
          split at hk
          · rename_i e' k' C hb
            cases hm : (Nat.beq ox 0 && (Nat.beq e' e && (Nat.beq k' es && Nat.ble (len * es) C.length))) with
            | false => rw [hm] at hk; cases hk
            | true =>
              rw [hm, cond_true, frc_eq] at hk
              simp only [Bool.and_eq_true] at hm
              obtain ⟨m1, m2, m3, m4⟩ := hm
              have m1 := Nat.eq_of_beq_eq_true m1
              have m2 := Nat.eq_of_beq_eq_true m2
              have m3 := Nat.eq_of_beq_eq_true m3
              subst m1 m2 m3
              refine ⟨_, _, _, hk, fun σ hσ => .vec hx (hσ _ List.mem_cons_self) (Nat.le_of_ble_eq_true m4), fun n b' h => ?_, fun n b' h => ?_, fun n b' h => ?_⟩
              · simp at h; obtain ⟨rfl, rfl⟩ := h; exact hb
              · simp at h; obtain ⟨rfl, rfl⟩ := h; exact ⟨_, List.mem_cons_self, rfl⟩
              · simp at h; exact h.2
          · cases hk
      obtain ⟨xs, up, σ1, h, hold, hσ1, hup, hgone⟩ := holds h
      obtain ⟨news, σ2, h, hnew, hσ2, hone⟩ := hnews h
      rw [consK'_eq, rqK_eq] at h
      obtain ⟨q, hq, h⟩ := nameK_spec h
      cases h
      refine ⟨Does.append ho hcal hargs htys hu hie hes hby hz hzs k1 (hold _ fun q hq => List.mem_append_left _ hq) (hnew _ fun q hq => List.mem_append_right _ hq) hone k2 k3, ⟨fun t v h => rq_in h, fun n b h => ?_⟩, fun n b h => ?_, hgone, fun n b h => ?_⟩
      · rcases List.mem_append.1 h with h | h
        · exact hσ1 n b h
        · exact hσ2 n b h
      · obtain ⟨b0, h0, h1⟩ := hup n b h
        exact ⟨b0, List.mem_append_left _ h0, h1⟩
      · simp at h; rw [h.1]; exact hq
  · cases h
end
end En
end Go.Proofs.YtbageimconenlaaGreat
