/- The engine: contracts on slices at calls. No program in sight. -/
import Derived.Test.YtbageimconenlaaGreatE9
namespace Go.Proofs.YtbageimconenlaaGreat
open Go.RowKit
set_option linter.unusedVariables false
namespace En
section
variable {P : Program}
theorem AOk.callV {s : St} {o : Oper} {c : Call} {g : FuncId} {vs : List Value} {σ : List (Nat × Box)} {v : Value}
    (h : ∀ (B : Nat) (ρ : (Nat → Pl)) (w : World), B ≤ w.heap.size → (∀ n b, (n, b) ∈ σ → BoxOK B ρ w n b) → Calls P g (vs.map (rV ρ)).toArray w (fun e w' => e = .returned v ∧ Below w.heap.size w w'))
    (hent : Enters P g) (ho : o.op = .call c) (hc : c.callee = .value (.func g)) (hargs : evs s c.args.toList = some vs) (hσ : ∀ n b, (n, b) ∈ σ → lk s.σ n = some b) (hv : flatV v = true) : AOk P s o ⟨rq s c.args.toList, σ⟩ ⟨v, [], []⟩ :=
  .callG hent ho hc hargs hσ (fun n b h => no_mem h) (.inl rfl) (fun n b h => no_mem h) (fun al _ _ => .val (NB.flat hv)) fun B ρ w al hB hbx _ _ _ =>
    (h B ρ w hB hbx).mono fun e w' he => ⟨ρ, by rw [he.1, rV_flat ρ hv], Eff.below v he.2⟩
theorem box_SlK {B : Nat} {ρ : (Nat → Pl)} {w : World} {n len k : Nat} {b : Box} {cells : List Value} (h : BoxOK B ρ w n b) (hb : ∀ (j : Nat) (v : Value), cells[j]? = some v → b.cells[j]? = some v) (hk : 0 < k) (hl : cells.length = len * k) (hf : allFC cells = true) :
    ∃ A c, rC ρ (.slice (some ⟨n, 0, none⟩) len 0) = .slice A len c ∧ SlK w w.heap.size A len k cells := by
  refine ⟨bif (ρ n).nil then (ρ n).alt else some (rA ρ ⟨n, 0, none⟩), (ρ n).cap, rfl, hl, fun hn => ?_⟩
  have h0 : 0 < cells.length := by rw [hl]; exact Nat.mul_pos hn hk
  have hc : ∀ j v, cells[j]? = some v → (ρ n).nil = false ∧ w.cell? ⟨(ρ n).b, (ρ n).o + j, none⟩ = some v := fun j v hv => by
    obtain ⟨h1, h2⟩ := h.cell (hb j v hv)
    rw [rC_flat ρ (allFC_spec hf v (List.mem_of_getElem? hv))] at h2
    exact ⟨h1, h2⟩
  have hz := hc 0 cells[0] (by simp [h0])
  refine ⟨(ρ n).b, (ρ n).o, by rw [hz.1]; rfl, cell_lt hz.2, fun i u hu => (hc i u hu).2⟩
structure SL (w : World) (A : Option Addr) (n c k : Nat) (cells : List Value) : Prop where
  sl : SlK w w.heap.size A n k cells
  le : n ≤ c
  mx : c ≤ maxLen
theorem SL.below {w w' : World} {A : Option Addr} {n c k : Nat} {cells : List Value} (h : SL w A n c k cells) (hb : Below w.heap.size w w') : SL w' A n c k cells := ⟨(h.sl.below hb).more hb.size, h.le, h.mx⟩
def plOf (A : Option Addr) (c : Nat) : Pl := match A with | some ⟨b, o, none⟩ => pl4 b o c false | A => ⟨0, 0, c, true, fun _ => False, A⟩
theorem plOf_slice {ρ : (Nat → Pl)} {A : Option Addr} {c i n : Nat} (hρ : ρ i = plOf A c) : rC ρ (.slice (some ⟨i, 0, none⟩) n 0) = .slice A n c := by
  show Value.slice (bif (ρ i).nil then (ρ i).alt else some (rA ρ ⟨i, 0, none⟩)) n (ρ i).cap = _
  rw [hρ]
  cases A with
  | none => rfl
  | some ad =>
    obtain ⟨b, o, sp⟩ := ad
    cases sp with
    | none => simp only [pl4, plOf, rA, hρ, cond_false, Nat.add_zero]
    | some sp => rfl
theorem plOf_cap (A : Option Addr) (c : Nat) : (plOf A c).cap = c := by
  cases A with
  | none => rfl
  | some ad =>
    obtain ⟨b, o, sp⟩ := ad
    cases sp <;> rfl
theorem SL.view {w : World} {A : Option Addr} {n c k B i : Nat} {cells : List Value} {ρ : (Nat → Pl)} (h : SL w A n c k cells) (hf : allFC cells = true) (hk : 0 < k) (hρ : ρ i = plOf A c) : BoxOK B ρ w i (.view k cells) := by
  have hcap : (ρ i).cap = c := by rw [hρ, plOf_cap]
  refine ⟨by rw [hcap]; exact h.mx, by rw [hcap, h.sl.1]; exact Nat.mul_le_mul_right _ h.le, fun j v hv => ?_⟩
  have hjl : j < n * k := by rw [← h.sl.1]; exact (List.getElem?_eq_some_iff.1 hv).1
  have hn : 0 < n := by
    rcases Nat.eq_zero_or_pos n with e | e
    · rw [e] at hjl; simp at hjl
    · exact e
  obtain ⟨b, o, rfl, hb, hc⟩ := h.sl.2 hn
  rw [hρ]
  refine ⟨rfl, hb, ?_⟩
  rw [rC_flat ρ (allFC_spec hf v (List.mem_of_getElem? hv))]
  exact hc j v hv
def kBox (k : Nat) : Box → Bool
  | .view k' _ => Nat.beq k' k
  | .vec _ k' _ => Nat.beq k' k
  | _ => false
theorem box_SL {B : Nat} {ρ : (Nat → Pl)} {w : World} {n len k : Nat} {b : Box} {cells : List Value} (h : BoxOK B ρ w n b) (hb : ∀ (j : Nat) (v : Value), cells[j]? = some v → b.cells[j]? = some v) (hk : 0 < k) (hl : cells.length = len * k) (hf : allFC cells = true) (hbk : kBox k b = true) :
    ∃ A c, rC ρ (.slice (some ⟨n, 0, none⟩) len 0) = .slice A len c ∧ SL w A len c k cells := by
  obtain ⟨A, c, h1, h2⟩ := box_SlK h hb hk hl hf
  refine ⟨A, c, h1, h2, ?_, ?_⟩
  all_goals
    have h3 : Value.slice (bif (ρ n).nil then (ρ n).alt else some (rA ρ ⟨n, 0, none⟩)) len (ρ n).cap = .slice A len c := h1
    injection h3 with e1 e2 e3
    subst e1 e3
  · have hcl : len * k ≤ b.cells.length := by
      rw [← hl]
      rcases Nat.eq_zero_or_pos cells.length with e | e
      · omega
      · have := hb (cells.length - 1) _ (List.getElem?_eq_getElem (by omega))
        have := (List.getElem?_eq_some_iff.1 this).1
        omega
    cases b with
    | view k' C =>
      have hk' := Nat.eq_of_beq_eq_true hbk
      subst hk'
      exact Nat.le_of_mul_le_mul_right (Nat.le_trans hcl h.2.1) hk
    | vec e k' C =>
      have hk' := Nat.eq_of_beq_eq_true hbk
      subst hk'
      rcases h.2 with ⟨_, _, h0⟩ | ⟨_, _, cur, _, _, h5, _⟩
      · subst h0
        have hcl : len * k' ≤ 0 := hcl
        rcases Nat.eq_zero_or_pos len with e | e
        · rw [e]; exact Nat.zero_le _
        · have := Nat.mul_pos e hk; omega
      · exact Nat.le_of_mul_le_mul_right (Nat.le_trans hcl h5) hk
    | row t C => cases hbk
    | gone => cases hbk
    | deep F => cases hbk
  · cases b with
    | view k' C => exact h.1
    | vec e k' C => exact h.1
    | row t C => cases hbk
    | gone => cases hbk
    | deep F => cases hbk
theorem AOk.callS {s : St} {o : Oper} {c : Call} {g : FuncId} (G : Value → List Value) (n len k : Nat) (cells : List Value) {b : Box} {v : Value}
    (C : ∀ (w : World) (A : Option Addr) (c' : Nat), SL w A len c' k cells → Calls P g (G (.slice A len c')).toArray w (fun e w' => e = .returned v ∧ Below w.heap.size w w'))
    (hent : Enters P g) (ho : o.op = .call c) (hc : c.callee = .value (.func g)) (hargs : evs s c.args.toList = some (G (.slice (some ⟨n, 0, none⟩) len 0))) (hG : ∀ ρ, (G (.slice (some ⟨n, 0, none⟩) len 0)).map (rV ρ) = G (rC ρ (.slice (some ⟨n, 0, none⟩) len 0)))
    (hb : lk s.σ n = some b) (hbc : ∀ (j : Nat) (v : Value), cells[j]? = some v → b.cells[j]? = some v) (hk : 0 < k) (hl : cells.length = len * k) (hf : allFC cells = true) (hbk : kBox k b = true) (hv : flatV v = true) : AOk P s o ⟨rq s c.args.toList, [(n, b)]⟩ ⟨v, [], []⟩ :=
  .callV (fun B ρ w hB hσ => by
    obtain ⟨A, c', h1, h2⟩ := box_SL (hσ n b List.mem_cons_self) hbc hk hl hf hbk
    rw [hG, h1]
    exact C w A c' h2) hent ho hc hargs (fun m b' h => by simp at h; obtain ⟨rfl, rfl⟩ := h; exact hb) hv
theorem own_vec {B base e k n q c : Nat} {w : World} {A : Option Addr} {cells : List Value} (h : OwnK w base e k (.slice A n c) n cells) (hB : B ≤ base) (hf : allFC cells = true) (ρ : (Nat → Pl)) :
    ∃ pl : Pl, rC (upd ρ q pl) (.slice (some ⟨q, 0, none⟩) n 0) = .slice A n c ∧ BoxOK B (upd ρ q pl) w q (.vec e k cells) ∧ (pl.nil = false → base ≤ pl.b) := by
  have hL : ∀ ρ', rL ρ' cells = cells := fun ρ' => rL_flat ρ' hf
  rcases h.2 with ⟨hv, h0⟩ | ⟨g, o, cap, cur, hv, hb, hg, hn, hm, hfit, htk⟩
  · injection hv with e1 e2 e3
    subst e1 e3
    refine ⟨(pl4 0 0 0 true), ?_, ?_, fun h => by cases h⟩
    · show Value.slice (bif (upd ρ q (pl4 0 0 0 true) q).nil then (upd ρ q (pl4 0 0 0 true) q).alt else some (rA _ _)) n (upd ρ q (pl4 0 0 0 true) q).cap = _
      simp only [rA, upd_same]; rfl
    · unfold BoxOK
      rw [upd_same]
      refine ⟨Nat.zero_le _, .inl ⟨rfl, ⟨rfl, rfl⟩, ?_⟩⟩
      refine List.eq_nil_of_length_eq_zero ?_
      have := h.1
      rw [h0] at this; simpa using this
  · injection hv with e1 e2 e3
    subst e1 e3
    refine ⟨(pl4 g o c false), ?_, ?_, fun _ => hb⟩
    · show Value.slice (bif (upd ρ q (pl4 g o c false) q).nil then (upd ρ q (pl4 g o c false) q).alt else some (rA _ _)) n (upd ρ q (pl4 g o c false) q).cap = _
      simp only [rA, upd_same]; rfl
    · unfold BoxOK
      rw [upd_same]
      refine ⟨hm, .inr ⟨rfl, Nat.le_trans hB hb, cur, hg, hfit, by rw [h.1]; exact Nat.mul_le_mul_right _ hn, ?_⟩⟩
      rw [hL, h.1]; exact htk
theorem vec_own {B : Nat} {ρ : (Nat → Pl)} {w : World} {q n e k : Nat} {cells : List Value} (h : BoxOK B ρ w q (.vec e k cells)) (hl : cells.length = n * k) (hk : 0 < k) (hf : allFC cells = true) :
    ∃ A c, rC ρ (.slice (some ⟨q, 0, none⟩) n 0) = .slice A n c ∧ OwnK w B e k (.slice A n c) n cells := by
  have hv : rC ρ (.slice (some ⟨q, 0, none⟩) n 0) = .slice (bif (ρ q).nil then (ρ q).alt else some (rA ρ ⟨q, 0, none⟩)) n (ρ q).cap := rfl
  refine ⟨_, _, hv, hl, ?_⟩
  obtain ⟨hm, h⟩ := h
  rcases h with ⟨h1, h2, h3⟩ | ⟨h1, h2, cur, h3, h4, h5, h6⟩
  · have hn : n = 0 := by
      rw [h3] at hl
      rcases Nat.eq_zero_or_pos n with e | e
      · exact e
      · have h9 := Nat.mul_pos e hk
        have h8 : (0 : Nat) = n * k := hl
        omega
    exact .inl ⟨by rw [h1, h2.1, h2.2, hn]; rfl, hn⟩
  · refine .inr ⟨(ρ q).b, (ρ q).o, (ρ q).cap, cur, by rw [h1]; rfl, h2, h3, Nat.le_of_mul_le_mul_right (by rw [← hl]; exact h5) hk, hm, h4, ?_⟩
    rw [hl, rL_flat ρ hf] at h6
    exact h6
theorem Eff.newBelow {B : Nat} {ρ : (Nat → Pl)} {w w' : World} {v : Value} {q : Nat} {b : Box} {pl : Pl} (h : Below w.heap.size w w') (hbox : BoxOK B (upd ρ q pl) w' q b) (hs : ∀ g, b.hit pl g → w.heap.size ≤ g) : Eff B ρ w ⟨v, [], [(q, b)]⟩ (upd ρ q pl) w' := by
  refine ⟨h.os, h.tape, h.output, h.size, fun g hg _ => h.block g hg, fun n hn => upd_other ρ pl (by rintro rfl; exact hn _ List.mem_cons_self), fun n b hb => no_mem hb, fun n b' hb => ?_, fun n b' hb gh hsol => ?_, fun n b1 m b2 hb hb2 hne => ?_⟩
  · simp only [List.mem_singleton] at hb
    injection hb with e1 e2
    subst e1 e2
    exact hbox
  · simp only [List.mem_singleton] at hb
    injection hb with e1 e2
    subst e1 e2
    rw [upd_same] at hsol
    exact .inl (hs gh hsol)
  · simp only [List.mem_singleton] at hb hb2
    injection hb with e1 _
    injection hb2 with e3 _
    exact absurd (e1.trans e3.symm) hne
theorem AOk.callO {s : St} {o : Oper} {c : Call} {g : FuncId} (F : Value → Value) (q n k : Nat) (e : TypeId) (cells : List Value) {vs : List Value} {σ : List (Nat × Box)}
    (C : ∀ (B : Nat) (ρ : (Nat → Pl)) (w : World), B ≤ w.heap.size → (∀ n b, (n, b) ∈ σ → BoxOK B ρ w n b) → Calls P g (vs.map (rV ρ)).toArray w (fun e' w' => ∃ A c', e' = .returned (F (.slice A n c')) ∧ OwnK w' w.heap.size e k (.slice A n c') n cells ∧ Below w.heap.size w w'))
    (hent : Enters P g) (ho : o.op = .call c) (hc : c.callee = .value (.func g)) (hargs : evs s c.args.toList = some vs) (hσ : ∀ n b, (n, b) ∈ σ → lk s.σ n = some b) (hq : memB q s.al = false)
    (hF : ∀ ρ, rV ρ (F (.slice (some ⟨q, 0, none⟩) n 0)) = F (rC ρ (.slice (some ⟨q, 0, none⟩) n 0))) (hN : nbV [q] (F (.slice (some ⟨q, 0, none⟩) n 0)) = true) (hf : allFC cells = true) :
    AOk P s o ⟨rq s c.args.toList, σ⟩ ⟨F (.slice (some ⟨q, 0, none⟩) n 0), [], [(q, .vec e k cells)]⟩ := by
  refine .callG hent ho hc hargs hσ (fun n b h => no_mem h) (.inr fun n b h => no_mem h) (fun n b h => ?_) (fun al _ _ => ⟨(nbV_NB hN).mono (fun n hn => by simp at hn ⊢; exact .inl hn), fun n b h => no_mem h, fun n b h v hv => ?_⟩) fun B ρ w al hB hbx _ _ _ => ?_
  · simp at h; rw [h.1]; intro hm; rw [memB_iff.2 hm] at hq; cases hq
  · simp at h
    obtain ⟨rfl, rfl⟩ := h
    exact NBc.flat (allFC_spec hf v hv)
  · refine (C B ρ w hB hbx).mono fun e' w' he => ?_
    obtain ⟨A, c', rfl, hO, hb⟩ := he
    obtain ⟨pl, h1, h2, h3⟩ := own_vec (B := B) (q := q) hO hB hf ρ
    refine ⟨upd ρ q pl, by rw [hF, h1], Eff.newBelow hb h2 fun g hs => by have h9 := h3 hs.1; rw [hs.2] at h9; exact h9⟩
theorem AOk.callO0 {s : St} {o : Oper} {c : Call} {g : FuncId} (F : Value → Value) (q n k : Nat) (e : TypeId) (cells : List Value) (vs : List Value)
    (C : ∀ (w : World), Calls P g vs.toArray w (fun e' w' => ∃ A c', e' = .returned (F (.slice A n c')) ∧ OwnK w' w.heap.size e k (.slice A n c') n cells ∧ Below w.heap.size w w'))
    (hent : Enters P g) (ho : o.op = .call c) (hc : c.callee = .value (.func g)) (hargs : evs s c.args.toList = some vs) (hq : memB q s.al = false) (hfl : vs.all flatV = true)
    (hF : ∀ ρ, rV ρ (F (.slice (some ⟨q, 0, none⟩) n 0)) = F (rC ρ (.slice (some ⟨q, 0, none⟩) n 0))) (hN : nbV [q] (F (.slice (some ⟨q, 0, none⟩) n 0)) = true) (hf : allFC cells = true) :
    AOk P s o ⟨rq s c.args.toList, []⟩ ⟨F (.slice (some ⟨q, 0, none⟩) n 0), [], [(q, .vec e k cells)]⟩ :=
  .callO F q n k e cells (σ := []) (fun B ρ w _ _ => by rw [map_flat ρ (rV ρ) flatV (fun v hv => rV_flat ρ hv) vs hfl]; exact C w) hent ho hc hargs (fun n b h => no_mem h) hq hF hN hf
theorem fun_slice {tb : (List (Nat × TI))} (hT : TbOK P tb) {f : FuncId} {fn : Func} {c : Code} (hm : P.follows .mixedOrders = true) (hf : P.funcs[f]? = some fn) (hb : fn.body = some c) (G : Value → List Value) (n k : Nat) (cells : List Value) {A : Option Addr} {cp : Nat} {w : World} (h : SL w A n cp k cells) (hk : 0 < k) (hfc : allFC cells = true) (vs : List Value) (hvs : G (.slice (some ⟨0, 0, none⟩) n 0) = vs) (hG : ∀ ρ, (G (.slice (some ⟨0, 0, none⟩) n 0)).map (rV ρ) = G (rC ρ (.slice (some ⟨0, 0, none⟩) n 0)))
    (nt : Nat) (tm : List (Nat × Value)) (htm : tmOf vs 0 = tm) (hnt : vs.length + (fn.ntmps - vs.length) = nt) (hd : dcode nt c = true) (hnb : allN1 [0] vs = true) (htu : noTup vs = true)
    (T : Value → St → Prop) (hac : AC P tb 1 c ⟨tm, [(0, .view k cells)], [0], nt⟩ (FQ tb fn.results.toList T)) :
    Calls P f (G (.slice A n cp)).toArray w (fun e w' => ∃ v s ρ a, T v s ∧ e = .returned (rV ρ v) ∧ Sat ⟨w.heap.size, w, fun _ => plOf A cp, 1⟩ ρ s a w') := by
  have := fun_fin hT (I := 1) hm hf hb vs [(0, .view k cells)] (fun _ => plOf A cp) w nt tm htm hnt hd [0] rfl hnb htu (fun m b hmb => by
    rw [lk_cons] at hmb
    split at hmb
    · rename_i e
      subst e
      cases hmb
      exact ⟨by omega, h.view hfc hk rfl, fun v hv => NBc.flat (allFC_spec hfc v hv), fun hw => hw⟩
    · cases hmb) T hac
  rw [← hvs, hG, plOf_slice (ρ := fun _ => plOf A cp) (A := A) (c := cp) rfl] at this
  exact this
theorem fun_sliceF {tb : (List (Nat × TI))} (hT : TbOK P tb) {f : FuncId} {fn : Func} {c : Code} (hm : P.follows .mixedOrders = true) (hf : P.funcs[f]? = some fn) (hb : fn.body = some c) (G : Value → List Value) (n k : Nat) (cells : List Value) {A : Option Addr} {cp : Nat} {w : World} (h : SL w A n cp k cells) (hk : 0 < k) (hfc : allFC cells = true) (vs : List Value) (hvs : G (.slice (some ⟨0, 0, none⟩) n 0) = vs) (hG : ∀ ρ, (G (.slice (some ⟨0, 0, none⟩) n 0)).map (rV ρ) = G (rC ρ (.slice (some ⟨0, 0, none⟩) n 0)))
    (nt : Nat) (tm : List (Nat × Value)) (htm : tmOf vs 0 = tm) (hnt : vs.length + (fn.ntmps - vs.length) = nt) (hd : dcode nt c = true) (hnb : allN1 [0] vs = true) (htu : noTup vs = true)
    (v : Value) (hv : flatV v = true) (hac : AC P tb 1 c ⟨tm, [(0, .view k cells)], [0], nt⟩ (FQ tb fn.results.toList fun u _ => u = v)) :
    Calls P f (G (.slice A n cp)).toArray w (fun e w' => e = .returned v ∧ Below w.heap.size w w') := by
  refine (fun_slice hT hm hf hb G n k cells h hk hfc vs hvs hG nt tm htm hnt hd hnb htu _ hac).mono fun e w' he => ?_
  obtain ⟨u, s, ρ, a, rfl, rfl, hs⟩ := he
  exact ⟨by rw [rV_flat ρ hv], hs.bl⟩
end
end En
end Go.Proofs.YtbageimconenlaaGreat
