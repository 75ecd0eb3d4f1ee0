/- The engine: a function that writes into a row of its caller. -/
import Derived.Test.YtbageimconenlaaGreatES
namespace Go.Proofs.YtbageimconenlaaGreat
open Go.RowKit En
set_option linter.unusedVariables false
namespace En
section
variable {P : Program}
theorem fun_finB {tb : (List (Nat × TI))} (hT : TbOK P tb) {f : FuncId} {fn : Func} {c : Code} {I : Nat} (hm : P.follows .mixedOrders = true) (hf : P.funcs[f]? = some fn) (hb : fn.body = some c) (B : Nat) (vs : List Value) (σ : List (Nat × Box)) (ρ0 : (Nat → Pl)) (w : World) (hB : B ≤ w.heap.size) (nt : Nat)
    (tm : List (Nat × Value)) (htm : tmOf vs 0 = tm) (hnt : vs.length + (fn.ntmps - vs.length) = nt) (hd : dcode nt c = true) (al : List Nat) (hal : alOf I = al) (hnb : allN1 (alOf I) vs = true) (htu : noTup vs = true)
    (hbx : ∀ n b, lk σ n = some b → n < I ∧ BoxOK B ρ0 w n b ∧ (∀ v ∈ b.cells, NBc (alOf I) v)) (hap : ∀ n m b b', lk σ n = some b → lk σ m = some b' → n ≠ m → b.wr (ρ0 n) → ¬ b'.hit (ρ0 m) (ρ0 n).b)
    (T : Value → St → Prop) (h : AC P tb I c ⟨tm, σ, al, nt⟩ (FQ tb fn.results.toList T)) :
    Calls P f (vs.map (rV ρ0)).toArray w (fun e w' => ∃ v s ρ a, T v s ∧ e = .returned (rV ρ v) ∧ Sat ⟨B, w, ρ0, I⟩ ρ s a w') := by
  subst htm hal
  refine calls_of_wp hf hb ?_
  have hvn : ∀ v ∈ vs, NB (alOf I) v := by
    have key : ∀ {l : List Value}, allN1 (alOf I) l = true → noTup l = true → ∀ v ∈ l, NB (alOf I) v := by
      intro l
      induction l with
      | nil => intro _ _ v hv; cases hv
      | cons u l ih =>
        intro h1 h2 v hv
        simp only [allN1, noTup, Bool.and_eq_true] at h1 h2
        rcases List.mem_cons.1 hv with e | e
        · subst e
          intro ρ ρ' ha
          rw [rV_r1 ρ h2.1, rV_r1 ρ' h2.1]
          exact nb1_r1 h1.1 ha
        · exact ih h1.2 h2.2 v e
    exact key hnb htu
  have hsat : Sat ⟨B, w, ρ0, I⟩ ρ0 ⟨tmOf vs 0, σ, alOf I, nt⟩ { tmps := (vs.map (rV ρ0)).toArray ++ Array.replicate (fn.ntmps - (vs.map (rV ρ0)).toArray.size) undef, defers := [] } w := by
    refine ⟨rfl, by simp; omega, Below.refl _ _, hB, fun _ _ => rfl, fun n hn => alOf_mem.2 hn, fun t v hv => ?_, fun n b hb => ?_, hap⟩
    · obtain ⟨_, h2⟩ := tmOf_lk hv
      rw [Nat.sub_zero] at h2
      refine ⟨?_, hvn v (List.mem_of_getElem? h2)⟩
      have hlt : t < vs.length := (List.getElem?_eq_some_iff.1 h2).1
      rw [Array.getElem?_append_left (by simpa using hlt)]
      rw [List.getElem?_toArray, List.getElem?_map, h2]; rfl
    · obtain ⟨h1, h2, h3⟩ := hbx n b hb
      exact ⟨h2, alOf_mem.2 h1, h3⟩
  refine wp_imp (aCode_sound hT hm c rfl (aCode_mono c (fun e s h => h.out) h.out) hd hsat) fun e a w' hp => ?_
  obtain ⟨ρ, s, hq, hnt', hs⟩ := hp
  cases e with
  | normal =>
    obtain ⟨l, hl, hn, hTT⟩ := hq
    exact ⟨hs.df, _, results_run hT hs hl hn, _, s, ρ, a, hTT, rfl, hs⟩
  | ret =>
    obtain ⟨l, hl, hn, hTT⟩ := hq
    exact ⟨hs.df, _, results_run hT hs hl hn, _, s, ρ, a, hTT, rfl, hs⟩
  | _ => exact hq.elim
/-- one block has turned -/
structure RowEff (w w' : World) (g : Nat) : Prop where
  os : w'.os = w.os
  tape : w'.tape = w.tape
  output : w'.output = w.output
  size : w.heap.size ≤ w'.heap.size
  keep : ∀ k, k < w.heap.size → k ≠ g → w'.heap[k]? = w.heap[k]?
def frameF (w : World) (g : Nat) (p : Pl) (w' : World) : Prop := ∀ k, k < w.heap.size → k ≠ g → w'.heap[k]? = w.heap[k]?
def plG (w : World) (g : Nat) (n : Nat) : Pl := if n = 0 then pl4 g 0 0 false else ⟨0, 0, 0, true, fun k => k < w.heap.size ∧ k ≠ g, none⟩
theorem fun_row {tb : (List (Nat × TI))} (hT : TbOK P tb) {f : FuncId} {fn : Func} {c : Code} (hm : P.follows .mixedOrders = true) (hf : P.funcs[f]? = some fn) (hb : fn.body = some c) (g : Nat) (t : TypeId) (cells cells' : List Value) (w : World) (hblk : Blk w g t cells.toArray) (hfc : allFC cells = true) (hfc' : allFC cells' = true)
    (rest : List Value) (nt : Nat) (tm : List (Nat × Value)) (htm : tmOf (.pointer (some ⟨0, 0, none⟩) :: rest) 0 = tm) (hnt : (rest.length + 1) + (fn.ntmps - (rest.length + 1)) = nt) (hd : dcode nt c = true) (hfl : rest.all flatV = true) (hnb : allN1 (alOf 2) (.pointer (some ⟨0, 0, none⟩) :: rest) = true) (htu : noTup (.pointer (some ⟨0, 0, none⟩) :: rest) = true) (r : Value) (hr : flatV r = true)
    (hac : AC P tb 2 c ⟨tm, [(0, .row t cells), (1, .deep (frameF w g))], [1, 0], nt⟩ (FQ tb fn.results.toList fun v st => v = r ∧ lk st.σ 0 = some (.row t cells') ∧ lk st.σ 1 = some (.deep (frameF w g)))) :
    Calls P f (.pointer (some ⟨g, 0, none⟩) :: rest).toArray w (fun e w' => e = .returned r ∧ Blk w' g t cells'.toArray ∧ RowEff w w' g) := by
  have hg := hblk.lt
  have H := fun_finB hT (I := 2) hm hf hb g (.pointer (some ⟨0, 0, none⟩) :: rest) [(0, .row t cells), (1, .deep (frameF w g))] (plG w g) w (Nat.le_of_lt hg) nt tm htm hnt hd [1, 0] rfl hnb htu (fun n b hb => by
    rw [lk_cons] at hb
    split at hb
    · rename_i e
      subst e
      cases hb
      refine ⟨by omega, ⟨Nat.le_refl _, rfl, rfl, ?_⟩, fun v hv => NBc.flat (allFC_spec hfc v hv)⟩
      rw [rL_flat _ hfc]; exact hblk
    · rw [lk_cons] at hb
      split at hb
      · rename_i e
        subst e
        cases hb
        exact ⟨by omega, ⟨fun k hk => hk.1, fun w2 hs hk k h1 h2 => hk k ⟨h1, h2⟩⟩, fun v hv => absurd hv List.not_mem_nil⟩
      · cases hb) (fun n m b b' hn hm' hne hw hh => by
    rw [lk_cons] at hn
    split at hn
    · rename_i e
      subst e
      cases hn
      rw [lk_cons, if_neg hne, lk_cons] at hm'
      split at hm'
      · rename_i e
        subst e
        cases hm'
        exact hh.2 rfl
      · cases hm'
    · rw [lk_cons] at hn
      split at hn
      · cases hn; exact hw
      · cases hn) _ hac
  have hp : ((Value.pointer (some ⟨0, 0, none⟩) :: rest).map (rV (plG w g))) = .pointer (some ⟨g, 0, none⟩) :: rest := by
    rw [List.map_cons, map_flat (plG w g) (rV (plG w g)) flatV (fun v hv => rV_flat _ hv) rest hfl]; rfl
  rw [hp] at H
  refine H.mono fun e w' he => ?_
  obtain ⟨v, s, ρ, a, ⟨rfl, h0, h1⟩, rfl, hs⟩ := he
  obtain ⟨b1, b2, b3, b4⟩ := (hs.bx _ _ h0).1
  have e0 : ρ 0 = plG w g 0 := hs.fx 0 (show 0 < 2 by decide)
  have e1 : ρ 1 = plG w g 1 := hs.fx 1 (show 1 < 2 by decide)
  rw [e0, rL_flat _ hfc'] at b4
  obtain ⟨d1, d2⟩ := (hs.bx _ _ h1).1
  have hk := d2 w' (Nat.le_refl _) (fun k _ => rfl)
  exact ⟨by rw [rV_flat ρ hr], b4, ⟨hs.bl.os, hs.bl.tape, hs.bl.output, hs.bl.size, hk⟩⟩
/-- a call of such a function -/
theorem AOk.callRow {s : St} {o : Oper} {c : Call} {g : FuncId} (m : Nat) (t : TypeId) (cells cells' rest : List Value) (r : Value)
    (C : ∀ (w : World) (b : Nat), Blk w b t cells.toArray → Calls P g (.pointer (some ⟨b, 0, none⟩) :: rest).toArray w (fun e w' => e = .returned r ∧ Blk w' b t cells'.toArray ∧ RowEff w w' b))
    (hent : Enters P g) (ho : o.op = .call c) (hc : c.callee = .value (.func g)) (hargs : evs s c.args.toList = some (.pointer (some ⟨m, 0, none⟩) :: rest)) (hσ : lk s.σ m = some (.row t cells)) (hfc : allFC cells = true) (hfc' : allFC cells' = true) (hfl : rest.all flatV = true) (hr : flatV r = true) :
    AOk P s o ⟨rq s c.args.toList, [(m, .row t cells)]⟩ ⟨r, [(m, .row t cells')], []⟩ := by
  refine .callG hent ho hc hargs (fun n b h => ?_) (fun n b h => ?_) (.inl rfl) (fun n b h => no_mem h) (fun al _ _ => ⟨NB.flat hr, fun n b h v hv => ?_, fun n b h => no_mem h⟩) fun B ρ w al hB hbx _ _ _ => ?_
  · simp at h; obtain ⟨rfl, rfl⟩ := h; exact hσ
  · simp at h; obtain ⟨rfl, rfl⟩ := h; exact ⟨_, List.mem_cons_self, rfl⟩
  · simp at h; obtain ⟨rfl, rfl⟩ := h; exact NBc.flat (allFC_spec hfc' v hv)
  · obtain ⟨b1, b2, b3, b4⟩ := hbx m _ List.mem_cons_self
    rw [rL_flat ρ hfc] at b4
    have hp : ((Value.pointer (some ⟨m, 0, none⟩) :: rest).map (rV ρ)) = .pointer (some ⟨(ρ m).b, 0, none⟩) :: rest := by
      rw [List.map_cons, map_flat ρ (rV ρ) flatV (fun v hv => rV_flat _ hv) rest hfl]
      show Value.pointer (some ⟨(ρ m).b, (ρ m).o + 0, none⟩) :: rest = _
      rw [b2]
    rw [hp]
    refine (C w (ρ m).b b4).mono fun e w' he => ⟨ρ, by rw [he.1, rV_flat ρ hr], ?_⟩
    obtain ⟨_, hB', he⟩ := he
    refine ⟨he.os, he.tape, he.output, he.size, fun k hk hne => he.keep k hk (hne m _ List.mem_cons_self b3), fun _ _ => rfl, fun n b hb => ?_, fun n b hb => no_mem hb, fun n b hb => no_mem hb, fun n b m b' hb => no_mem hb⟩
    simp at hb
    obtain ⟨rfl, rfl⟩ := hb
    exact ⟨b1, b2, b3, by rw [rL_flat ρ hfc']; exact hB'⟩
end
end En
end Go.Proofs.YtbageimconenlaaGreat
