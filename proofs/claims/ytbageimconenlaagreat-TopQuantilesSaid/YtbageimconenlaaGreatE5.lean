/- The engine: operations that read, write and make memory. No program in sight. -/
import Derived.Test.YtbageimconenlaaGreatE3
import Derived.Great.FillDense
namespace Go.Proofs.YtbageimconenlaaGreat
open Go.RowKit
set_option linter.unusedVariables false
namespace En
def frc {β : Type} : List Value → (List Value → β) → β
  | [], k => k []
  | v :: l, k => frc l fun l' => k (v :: l')
theorem frc_eq {β : Type} : ∀ (l : List Value) (k : List Value → β), frc l k = k l
  | [], k => rfl
  | v :: l, k => frc_eq l fun l' => k (v :: l')
def oneC : Value → Bool
  | .agg _ => false
  | .tuple _ => false
  | .func _ _ _ => false
  | _ => true
theorem rV_one (ρ : (Nat → Pl)) {v : Value} (h : oneC v = true) : rV ρ v = rC ρ v := by cases v <;> first | rfl | cases h
theorem rC_one (ρ : (Nat → Pl)) {v : Value} (h : oneC v = true) : oneC (rC ρ v) = true := by
  unfold rC; split <;> first | rfl | exact h
theorem one_oneCell {v : Value} (h : oneC v = true) : v.oneCell' = true := by cases v <;> first | rfl | cases h
def allOne : List Value → Bool
  | [] => true
  | v :: l => oneC v && allOne l
theorem allOne_spec : ∀ {l : List Value}, allOne l = true → ∀ v ∈ l, oneC v = true
  | u :: l, h, v, hv => by
    simp only [allOne, Bool.and_eq_true] at h
    rcases List.mem_cons.1 hv with e | e
    · subst e; exact h.1
    · exact allOne_spec h.2 v e
def vcs : Value → Option (List Value)
  | .agg cs => some cs.toList
  | .tuple _ => none
  | .func _ _ _ => none
  | v => some [v]
theorem vcs_cells (ρ : (Nat → Pl)) {v : Value} {l : List Value} (h : vcs v = some l) : (rV ρ v).cells = (rL ρ l).toArray := by
  cases v with
  | pointer a => cases h; cases a <;> rfl
  | slice a n c => cases h; cases a <;> rfl
  | agg cs => cases h; rfl
  | tuple vs => cases h
  | func f x c => cases h
  | bool b => cases h; rfl
  | int k n => cases h; rfl
  | float k b => cases h; rfl
  | complex k a b => cases h; rfl
  | string x => cases h; rfl
  | map r => cases h; rfl
  | chan r => cases h; rfl
  | nilFunc => cases h; rfl
  | iface t v => cases h; cases v <;> rfl
  | nilIface => cases h; rfl
theorem vcs_nb {al : List Nat} {v : Value} {l : List Value} (h : vcs v = some l) (hn : NB al v) : ∀ u ∈ l, NBc al u := by
  intro u hu ρ ρ' ha
  have h1 := congrArg Value.cells (hn ρ ρ' ha)
  rw [vcs_cells ρ h, vcs_cells ρ' h] at h1
  have h2 : rL ρ l = rL ρ' l := by simpa using congrArg Array.toList h1
  obtain ⟨j, hj⟩ := List.getElem?_of_mem hu
  have h3 := congrArg (fun l : List Value => l[j]?) h2
  simpa [rL, hj] using h3
section
variable {P : Program} {B : Nat}
def aggB (P : Program) (t : TypeId) : Option Bool :=
  match P.underlying t with
  | some (.struct _) => some true
  | some (.array _ _) => some true
  | some _ => some false
  | none => none
theorem aggB_run {t : TypeId} {b : Bool} (h : aggB P t = some b) (w : World) : (isAgg t).run P w = .ok b w := by
  unfold aggB at h
  split at h <;> first | cases h | skip
  · rename_i f hu; simp [isAgg, run_underlying hu]
  · rename_i n e hu; simp [isAgg, run_underlying hu]
  · rename_i d h1 h2 hu
    simp only [isAgg, Sem.run_bind, run_underlying hu, Result.andThen_ok]
    cases d <;> first | rfl | exact absurd hu (h1 _) | exact absurd hu (h2 _ _)
inductive TK where
  | struct (pls : List (Nat × Nat))
  | array (len es : Nat)
  | slice (e es bytes : Nat)
  | other
structure TI where
  agg : Bool
  size : Nat
  zero : List Value
  k : TK
def flds (P : Program) : List Field → List (Nat × Nat) → Bool
  | [], [] => true
  | f :: r, (o, z) :: l => (match P.info? f.type with | some i => Nat.beq i.size z && Nat.beq f.offset o | none => false) && flds P r l
  | _, _ => false
def KOK (P : Program) (t : TypeId) : TK → Prop
  | .struct pls => ∃ fs, P.underlying t = some (.struct fs) ∧ flds P fs.toList pls = true
  | .array n es => ∃ e ie, P.underlying t = some (.array n e) ∧ P.info? e = some ie ∧ ie.size = es
  | .slice e es bytes => ∃ ie z, P.underlying t = some (.slice e) ∧ P.info? e = some ie ∧ ie.size = es ∧ ie.bytes = bytes ∧ ie.zero = some z ∧ z.cells.size = es
  | .other => True
structure TIOK (P : Program) (t : TypeId) (ti : TI) : Prop where
  info : ∃ i z, P.info? t = some i ∧ i.size = ti.size ∧ i.zero = some z ∧ z.cells.toList = ti.zero
  agg : aggB P t = some ti.agg
  k : KOK P t ti.k
def TbOK (P : Program) (tb : (List (Nat × TI))) : Prop := ∀ t ti, (t, ti) ∈ tb → TIOK P t ti
theorem TbOK.at_ {P : Program} {tb : (List (Nat × TI))} (h : TbOK P tb) {t : TypeId} {ti : TI} (ht : lk tb t = some ti) : TIOK P t ti := h t ti (lk_mem ht)
theorem BoxOK.cell {ρ : (Nat → Pl)} {w : World} {n : Nat} {b : Box} (h : BoxOK B ρ w n b) {j : Nat} {v : Value} (hj : b.cells[j]? = some v) :
    (ρ n).nil = false ∧ w.cell? ⟨(ρ n).b, (ρ n).o + j, none⟩ = some (rC ρ v) := by
  cases b with
  | row t C =>
    obtain ⟨h1, h2, h3, h4⟩ := h
    refine ⟨h3, ?_⟩
    rw [h2, Nat.zero_add, h4.cell]
    have : C[j]? = some v := hj
    simp [rL, this]
  | view k C => exact ⟨(h.2.2 j v hj).1, (h.2.2 j v hj).2.2⟩
  | vec e k C =>
    have hj : C[j]? = some v := hj
    obtain ⟨h1, h3⟩ := h
    rcases h3 with ⟨_, _, hC⟩ | ⟨hn, hb, cur, hB, hs, hl, ht⟩
    · rw [hC] at hj; simp at hj
    · refine ⟨hn, ?_⟩
      rw [hB.cell]
      have hjl : j < C.length := (List.getElem?_eq_some_iff.1 hj).1
      have h5 := congrArg (fun l : List Value => l[j]?) ht
      simp only [List.getElem?_take, hjl, if_true, List.getElem?_drop] at h5
      rw [← Array.getElem?_toList, h5]
      simp [rL, hj]
  | gone => cases hj
  | deep F => cases hj
theorem run_loadRow {t : TypeId} {i : TypeInfo} {w : World} {b o : Nat} {cs : List Value} (ha : aggB P t = some true) (hi : P.info? t = some i) (hl : i.size = cs.length) (hc : ∀ j v, cs[j]? = some v → w.cell? ⟨b, o + j, none⟩ = some v) :
    (loadVar t ⟨b, o, none⟩).run P w = .ok (.agg cs.toArray) w := by
  have h1 : (loadCells ⟨b, o, none⟩ cs.length).run P w = .ok cs.toArray w :=
    run_loadCells_list (P := P) w ⟨b, o, none⟩ cs (fun j v hv => by
      have := hc j v hv
      unfold Addr.add; split
      · rename_i e; subst e; simpa using this
      · exact this)
  simp only [loadVar, Sem.run_bind, aggB_run ha, Result.andThen_ok, if_true, sizeOf, typeInfo, program]
  simp [Sem.run, hi, hl, h1]
theorem run_loadOne {t : TypeId} {w : World} {a : Addr} {v : Value} (ha : aggB P t = some false) (hc : w.cell? a = some v) : (loadVar t a).run P w = .ok v w := by
  simp [loadVar, aggB_run ha, load, Sem.run, hc]
def aload (tb : (List (Nat × TI))) (s : St) (t : TypeId) (x : Operand) : Option (Req × Plan) :=
  match ev s x with
  | some (.pointer (some ad)) =>
    match lk s.σ ad.block with
    | some b =>
      match lk tb t with
      | some ti =>
        bif ti.agg then
          frc ((b.cells.drop ad.off).take ti.size) fun cs => bif Nat.beq cs.length ti.size then rqK s.tm [x] fun l => some (⟨l, [(ad.block, b)]⟩, ⟨.agg cs.toArray, [], []⟩) else none
        else match b.cells[ad.off]? with | some v => bif oneC v then rqK s.tm [x] fun l => some (⟨l, [(ad.block, b)]⟩, ⟨v, [], []⟩) else none | none => none
      | none => none
    | none => none
  | _ => none
theorem Does.loadRow {s : St} {o : Oper} {t : TypeId} {x : Operand} {ad : Addr} {b : Box} {i : TypeInfo} {cs : List Value} (ho : o.op = .load t x) (hx : ev s x = some (.pointer (some ad))) (hb : lk s.σ ad.block = some b) (ha : aggB P t = some true) (hi : P.info? t = some i) (hl : i.size = cs.length)
    (hc : ∀ j v, cs[j]? = some v → b.cells[ad.off + j]? = some v) : Does P B o ⟨rq s [x], [(ad.block, b)]⟩ ⟨.agg cs.toArray, [], []⟩ := by
  have hmem : ∀ v ∈ cs, v ∈ b.cells := fun v hv => by
    obtain ⟨j, hj⟩ := List.getElem?_of_mem hv
    exact List.mem_of_getElem? (hc j v hj)
  refine Does.value (fun al hr ρ ρ' hag => ?_) fun ρ a w hm => ?_
  · have h1 := (hr.σ ad.block b List.mem_cons_self).2
    show Value.agg (rL ρ cs).toArray = Value.agg (rL ρ' cs).toArray
    rw [rL_agr hag fun v hv => h1 v (hmem v hv)]
  · unfold execOp
    simp only [ho, ev_eval hm List.mem_cons_self hx, Instr.loadAt, Instr.sureAddr, rV, r1, rC, rA, Sem.run_bind, Sem.run_pure, Result.andThen_ok]
    rw [run_loadRow (cs := rL ρ cs) ha hi (by rw [rL_len]; exact hl)]
    · rfl
    · intro j v hv
      have : ∃ u, cs[j]? = some u ∧ rC ρ u = v := by simpa [rL] using hv
      obtain ⟨u, hu, rfl⟩ := this
      rw [Nat.add_assoc]
      exact ((hm.σ ad.block b List.mem_cons_self).cell (hc j u hu)).2
theorem Does.loadOne {s : St} {o : Oper} {t : TypeId} {x : Operand} {ad : Addr} {b : Box} {v : Value} (ho : o.op = .load t x) (hx : ev s x = some (.pointer (some ad))) (hb : lk s.σ ad.block = some b) (ha : aggB P t = some false) (h1 : oneC v = true)
    (hc : b.cells[ad.off]? = some v) : Does P B o ⟨rq s [x], [(ad.block, b)]⟩ ⟨v, [], []⟩ := by
  refine Does.value (fun al hr ρ ρ' hag => ?_) fun ρ a w hm => ?_
  · rw [rV_one ρ h1, rV_one ρ' h1]
    exact (hr.σ ad.block b List.mem_cons_self).2 v (List.mem_of_getElem? hc) ρ ρ' hag
  · unfold execOp
    simp only [ho, ev_eval hm List.mem_cons_self hx, Instr.loadAt, Instr.sureAddr, rV, r1, rC, rA, Sem.run_bind, Sem.run_pure, Result.andThen_ok]
    rw [run_loadOne ha ((hm.σ ad.block b List.mem_cons_self).cell hc).2]
    have := rV_one ρ h1
    simp only [rV] at this
    rw [← this]; rfl
theorem in_one {s : St} {l : List Operand} {n : Nat} {b : Box} (hb : lk s.σ n = some b) : In ⟨rq s l, [(n, b)]⟩ s :=
  ⟨fun t v h => rq_in h, fun m b' h => by simp at h; obtain ⟨rfl, rfl⟩ := h; exact hb⟩
theorem in_none {s : St} {l : List Operand} : In ⟨rq s l, []⟩ s := ⟨fun t v h => rq_in h, fun n b h => no_mem h⟩
theorem aload_does {tb : (List (Nat × TI))} (hT : TbOK P tb) {s : St} {o : Oper} {t : TypeId} {x : Operand} {R : Req} {p : Plan} (ho : o.op = .load t x) (h : aload tb s t x = some (R, p)) : Does P B o R p ∧ In R s ∧ p.up = [] ∧ p.nw = [] := by
  unfold aload at h
  split at h
  · rename_i ad hx
    split at h
    · rename_i b hb
      split at h
      · rename_i ti hti
        obtain ⟨⟨i, z, hi, hsz, _, _⟩, hag, _⟩ := hT.at_ hti
        cases ha : ti.agg with
        | true =>
          rw [ha, cond_true, frc_eq] at h
          rw [ha] at hag
          cases hc : Nat.beq ((b.cells.drop ad.off).take ti.size).length ti.size with
          | false => rw [hc] at h; cases h
          | true =>
            rw [hc, cond_true, rqK_eq] at h; cases h
            refine ⟨Does.loadRow ho hx hb hag hi (hsz.trans (Nat.eq_of_beq_eq_true hc).symm) fun j v hv => ?_, in_one hb, rfl, rfl⟩
            rw [List.getElem?_take] at hv
            split at hv
            · rw [List.getElem?_drop] at hv; exact hv
            · cases hv
        | false =>
          rw [ha, cond_false] at h
          rw [ha] at hag
          split at h
          · rename_i v hv
            cases hc : oneC v with
            | false => rw [hc] at h; cases h
            | true => rw [hc, cond_true, rqK_eq] at h; cases h; exact ⟨Does.loadOne ho hx hb hag hc hv, in_one hb, rfl, rfl⟩
          · cases h
      · cases h
    · cases h
  · cases h
def spl : List Value → Nat → List Value → List Value
  | C, _, [] => C
  | [], _, _ :: _ => []
  | _ :: C, 0, v :: vs => v :: spl C 0 vs
  | c :: C, n + 1, v :: vs => c :: spl C n (v :: vs)
theorem spl_eq : ∀ {C : List Value} {n : Nat} {vs : List Value}, n + vs.length ≤ C.length → spl C n vs = C.take n ++ vs ++ C.drop (n + vs.length)
  | C, n, [], _ => by cases C <;> simp [spl]
  | [], n, v :: vs, h => by simp at h
  | c :: C, 0, v :: vs, h => by
    have := spl_eq (C := C) (n := 0) (vs := vs) (by simp at h ⊢; omega)
    simp [spl, this]
  | c :: C, n + 1, v :: vs, h => by
    have := spl_eq (C := C) (n := n) (vs := v :: vs) (by simp at h ⊢; omega)
    rw [spl, this]
    simp only [List.length_cons, List.take_succ_cons, List.cons_append]
    rw [show n + 1 + (vs.length + 1) = (n + (vs.length + 1)) + 1 by omega, List.drop_succ_cons]
theorem spl_len {C : List Value} {n : Nat} {vs : List Value} (h : n + vs.length ≤ C.length) : (spl C n vs).length = C.length := by
  rw [spl_eq h]; simp; omega
theorem spl_mem {C : List Value} {n : Nat} {vs : List Value} (h : n + vs.length ≤ C.length) {v : Value} (hv : v ∈ spl C n vs) : v ∈ C ∨ v ∈ vs := by
  rw [spl_eq h] at hv
  rcases List.mem_append.1 hv with hv | hv
  · rcases List.mem_append.1 hv with hv | hv
    · exact .inl (List.mem_of_mem_take hv)
    · exact .inr hv
  · exact .inl (List.mem_of_mem_drop hv)
theorem rL_spl (ρ : (Nat → Pl)) {C : List Value} {n : Nat} {vs : List Value} (h : n + vs.length ≤ C.length) : rL ρ (spl C n vs) = spl (rL ρ C) n (rL ρ vs) := by
  rw [spl_eq h, spl_eq (by rw [rL_len, rL_len]; exact h)]
  simp [rL, List.map_take, List.map_drop]
theorem rowE {w : World} {g : Nat} {t : TypeId} {cs : Array Value} (h : Blk w g t cs) (cs' : Array Value) : Blk (w.setRow g cs') g t cs' := setRow_heap w g cs cs' t (0, 0) h
def Box.re (b : Box) (C : List Value) : Box :=
  match b with
  | .row t _ => .row t C
  | .vec e k _ => .vec e k C
  | b => b
def Box.put (b : Box) (off : Nat) (vs : List Value) : Box :=
  match b with
  | .row t C => .row t (spl C off vs)
  | .vec e k C => .vec e k (spl C off vs)
  | b => b
def Box.wrB : Box → Bool
  | .row _ _ => true
  | .vec _ _ _ => true
  | _ => false
theorem run_storeVar {t : TypeId} {i : TypeInfo} {w : World} {g off : Nat} {ty : TypeId} {cur : Array Value} {v : Value} {vs : List Value} (hi : P.info? t = some i) (hv : v.cells = vs.toArray) (hl : i.size = vs.length) (hg : w.heap[g]? = some (.cells cur ty (0, 0))) (hf : off + vs.length ≤ cur.size) (h1 : ∀ u ∈ vs, u.oneCell' = true) :
    (storeVar t ⟨g, off, none⟩ v).run P w = .ok () (w.setRow g (cur.toList.take off ++ vs ++ cur.toList.drop (off + vs.length)).toArray) := by
  have := run_storeCells_at P g off ty vs 0 cur w hg (by simpa using hf) h1
  simp only [Nat.add_zero] at this
  simp [storeVar, hv, sizeOf, typeInfo, program, Sem.run, hi, hl, this]
theorem setRow_eff {ρ : (Nat → Pl)} {w : World} {n : Nat} {v : Value} {b b' : Box} (cs : Array Value) (hn : (ρ n).nil = false) (hb : BoxOK B ρ (w.setRow (ρ n).b cs) n b') : Eff B ρ w ⟨v, [(n, b')], []⟩ ρ (w.setRow (ρ n).b cs) := by
  refine ⟨rfl, rfl, rfl, by simp [World.setRow], fun g hg hk => setRow_other _ _ _ _ (hk n b' List.mem_cons_self hn), fun _ _ => rfl, fun m b hm => ?_, fun m b hm => no_mem hm, fun m b hm => no_mem hm, fun m b m2 b2 hm => no_mem hm⟩
  simp at hm
  obtain ⟨rfl, rfl⟩ := hm
  exact hb
theorem Does.store {s : St} {o : Oper} {t : TypeId} {x y : Operand} {ad : Addr} {b : Box} {i : TypeInfo} {v : Value} {vs : List Value} (ho : o.op = .store t x y) (hx : ev s x = some (.pointer (some ad))) (hy : ev s y = some v) (hv : vcs v = some vs) (hb : lk s.σ ad.block = some b) (hw : b.wrB = true) (hi : P.info? t = some i)
    (hl : i.size = vs.length) (h1 : allOne vs = true) (hf : ad.off + vs.length ≤ b.cells.length) (hne : vs ≠ []) : Does P B o ⟨rq s [x, y], [(ad.block, b)]⟩ ⟨undef, [(ad.block, b.put ad.off vs)], []⟩ := by
  have hlen : 0 < vs.length := List.length_pos_iff.2 hne
  refine .of (fun al hr => ⟨NB.flat (by rfl), fun n b' hn => ?_, fun n b hn => no_mem hn⟩) (fun ρ a w al hm hr _ K Q hK => .inl ?_)
  · simp only [List.mem_singleton] at hn
    injection hn with e1 e2
    subst e1 e2
    have hbn := (hr.σ ad.block b List.mem_cons_self).2
    have hvn := vcs_nb hv (ev_nb hr (by simp) hy)
    intro u hu
    have : u ∈ b.cells ∨ u ∈ vs := by
      cases b <;> first | exact spl_mem hf hu | exact .inl hu
    rcases this with h | h
    · exact hbn u h
    · exact hvn u h
  · have hbx := hm.σ ad.block b List.mem_cons_self
    have hax := ev_eval hm (x := x) (by simp) hx
    have hay := ev_eval hm (x := y) (by simp) hy
    have hones : ∀ u ∈ rL ρ vs, u.oneCell' = true := fun u hu => by
      obtain ⟨q, hq, rfl⟩ := List.mem_map.1 hu
      exact one_oneCell (rC_one ρ (allOne_spec h1 q hq))
    have fin : ∀ (ty : TypeId) (cur : Array Value) (b' : Box), Blk w (ρ ad.block).b ty cur → (ρ ad.block).o = 0 → (ρ ad.block).nil = false → ad.off + vs.length ≤ cur.size →
        BoxOK B ρ (w.setRow (ρ ad.block).b (cur.toList.take ad.off ++ rL ρ vs ++ cur.toList.drop (ad.off + vs.length)).toArray) ad.block (b.put ad.off vs) → o.wp P a w K Q := by
      intro ty cur b' hblk ho0 hnil hfit hbox
      have hrun := run_storeVar (P := P) (t := t) (v := rV ρ v) (vs := rL ρ vs) (off := ad.off) hi (vcs_cells ρ hv) (by rw [rL_len]; exact hl) hblk (by rw [rL_len]; exact hfit) hones
      rw [rL_len] at hrun
      refine wp_skip (w' := w.setRow (ρ ad.block).b (cur.toList.take ad.off ++ rL ρ vs ++ cur.toList.drop (ad.off + vs.length)).toArray) ?_ ?_
      · unfold execOp
        have hxr : rV ρ (.pointer (some ad)) = .pointer (some ⟨(ρ ad.block).b, (ρ ad.block).o + ad.off, none⟩) := rfl
        rw [ho0, Nat.zero_add] at hxr
        generalize rV ρ v = yv at *
        simp only [ho, hax, hay, hxr, Instr.storeAt, Instr.sureAddr, Sem.run_bind, Sem.run_pure, Result.andThen_ok, hrun]
      · exact hK ρ _ (setRow_eff (b := b) _ hnil hbox)
    cases b with
    | row ty C =>
      have hf : ad.off + vs.length ≤ C.length := hf
      obtain ⟨b1, b2, b3, b4⟩ := hbx
      refine fin ty _ (.row ty (spl C ad.off vs)) b4 b2 b3 (by have hf : ad.off + vs.length ≤ C.length := hf; simpa [rL] using hf) ⟨b1, b2, b3, ?_⟩
      have := rowE b4 ((rL ρ C).take ad.off ++ rL ρ vs ++ (rL ρ C).drop (ad.off + vs.length)).toArray
      have he : rL ρ (spl C ad.off vs) = (rL ρ C).take ad.off ++ rL ρ vs ++ (rL ρ C).drop (ad.off + vs.length) := by
        rw [rL_spl ρ hf, spl_eq (by rw [rL_len, rL_len]; exact hf), rL_len]
      rw [he]; exact this
    | vec e k C =>
      have hf : ad.off + vs.length ≤ C.length := hf
      obtain ⟨b1, b3⟩ := hbx
      rcases b3 with ⟨_, _, hC⟩ | ⟨c1, c2, cur, c3, c4, c5, c6⟩
      · rw [hC] at hf; simp at hf; exact absurd hf.2 hne
      · have hrun := run_storeVar (P := P) (t := t) (v := rV ρ v) (vs := rL ρ vs) (off := (ρ ad.block).o + ad.off) hi (vcs_cells ρ hv) (by rw [rL_len]; exact hl) c3 (by rw [rL_len]; omega) hones
        rw [rL_len] at hrun
        refine wp_skip (w' := w.setRow (ρ ad.block).b (cur.toList.take ((ρ ad.block).o + ad.off) ++ rL ρ vs ++ cur.toList.drop ((ρ ad.block).o + ad.off + vs.length)).toArray) ?_ ?_
        · unfold execOp
          have hxr : rV ρ (.pointer (some ad)) = .pointer (some ⟨(ρ ad.block).b, (ρ ad.block).o + ad.off, none⟩) := rfl
          generalize rV ρ v = yv at *
          simp only [ho, hax, hay, hxr, Instr.storeAt, Instr.sureAddr, Sem.run_bind, Sem.run_pure, Result.andThen_ok, hrun]
        · refine hK ρ _ (setRow_eff (b := .vec e k C) _ c1 ⟨b1, .inr ⟨c1, c2, _, rowE c3 _, ?_, by rw [spl_len hf]; exact c5, ?_⟩⟩)
          · simp only [List.size_toArray, List.length_append, List.length_take, List.length_drop, rL_len, Array.length_toList]
            omega
          · rw [spl_len hf, rL_spl ρ hf, spl_eq (by rw [rL_len, rL_len]; exact hf), ← c6, rL_len]
            have hcl : (ρ ad.block).o + C.length ≤ cur.size := by omega
            refine List.ext_getElem? fun j => ?_
            simp only [List.getElem?_take, List.getElem?_drop, List.getElem?_append, List.length_append, List.length_take, List.length_drop, Array.length_toList, rL_len]
            by_cases hj : j < C.length
            · simp only [hj, if_true]
              by_cases h1 : j < ad.off
              · (repeat (first | rw [if_pos (by omega)] | rw [if_neg (by omega)]))
              · by_cases h2 : j < ad.off + vs.length
                · (repeat (first | rw [if_pos (by omega)] | rw [if_neg (by omega)])) <;> (congr 1; omega)
                · (repeat (first | rw [if_pos (by omega)] | rw [if_neg (by omega)])) <;> (congr 1; omega)
            · rw [if_neg hj, if_neg (by omega)]
              split
              · omega
              · (first | rfl | (rw [if_neg (by omega)]) | (split <;> first | rfl | omega))
    | view k C => cases hw
    | gone => cases hw
    | deep F => cases hw
def astore (tb : (List (Nat × TI))) (s : St) (t : TypeId) (x y : Operand) : Option (Req × Plan) :=
  match ev s x, ev s y with
  | some (.pointer (some ad)), some v =>
    match lk s.σ ad.block, vcs v, lk tb t with
    | some b, some vs, some ti =>
      bif b.wrB && Nat.beq ti.size vs.length && allOne vs && Nat.ble (ad.off + vs.length) b.cells.length && Nat.blt 0 vs.length then
        frc (b.put ad.off vs).cells fun C => rqK s.tm [x, y] fun l => some (⟨l, [(ad.block, b)]⟩, ⟨undef, [(ad.block, b.re C)], []⟩)
      else none
    | _, _, _ => none
  | _, _ => none
theorem astore_does {tb : (List (Nat × TI))} (hT : TbOK P tb) {s : St} {o : Oper} {t : TypeId} {x y : Operand} {R : Req} {p : Plan} (ho : o.op = .store t x y) (h : astore tb s t x y = some (R, p)) :
    Does P B o R p ∧ In R s ∧ (∀ n b, (n, b) ∈ p.up → ∃ b0, (n, b0) ∈ R.σ ∧ kindOK b0 b = true) ∧ p.nw = [] := by
  unfold astore at h
  split at h
  · rename_i ad v hx hy
    split at h
    · rename_i b vs ti hb hv hti
      obtain ⟨⟨i, z, hi, hsz, _, _⟩, hag, _⟩ := hT.at_ hti
      cases hc : (b.wrB && Nat.beq ti.size vs.length && allOne vs && Nat.ble (ad.off + vs.length) b.cells.length && Nat.blt 0 vs.length) with
      | false => rw [hc] at h; cases h
      | true =>
        rw [hc, cond_true, frc_eq, rqK_eq] at h
        simp only [Bool.and_eq_true] at hc
        obtain ⟨⟨⟨⟨c1, c2⟩, c3⟩, c4⟩, c5⟩ := hc
        have hbx : b.re (b.put ad.off vs).cells = b.put ad.off vs := by cases b <;> rfl
        rw [hbx] at h
        cases h
        refine ⟨Does.store ho hx hy hv hb c1 hi (hsz.trans (Nat.eq_of_beq_eq_true c2)) c3 (Nat.le_of_ble_eq_true c4) (by rintro rfl; simp at c5), in_one hb, fun n b' hn => ?_, rfl⟩
        simp only [List.mem_singleton] at hn
        injection hn with e1 e2
        subst e1 e2
        refine ⟨b, List.mem_cons_self, ?_⟩
        cases b <;> first | rfl | cases c1
    · cases h
  · cases h
end
end En
end Go.Proofs.YtbageimconenlaaGreat
