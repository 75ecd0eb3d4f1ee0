/- The engine: a slice in, a slice of its own out. | The engine: a name for a nil slice in a row. -/
import Derived.Test.YtbageimconenlaaGreatED
namespace Go.Proofs.YtbageimconenlaaGreat
open Go.RowKit En
set_option linter.unusedVariables false
namespace En
section
variable {P : Program}
theorem AOk.callOS {s : St} {o : Oper} {c : Call} {g : FuncId} (G : Value → List Value) (n len k : Nat) (cells : List Value) {b : Box} (F : Value → Value) (q n' k' : Nat) (e' : TypeId) (cells' : List Value)
    (C : ∀ (w : World) (A : Option Addr) (c' : Nat), SL w A len c' k cells → Calls P g (G (.slice A len c')).toArray w (fun e w' => ∃ A' c'', e = .returned (F (.slice A' n' c'')) ∧ OwnK w' w.heap.size e' k' (.slice A' n' c'') n' cells' ∧ Below w.heap.size w w'))
    (hent : Enters P g) (ho : o.op = .call c) (hc : c.callee = .value (.func g)) (hargs : evs s c.args.toList = some (G (.slice (some ⟨n, 0, none⟩) len 0))) (hG : ∀ ρ, (G (.slice (some ⟨n, 0, none⟩) len 0)).map (rV ρ) = G (rC ρ (.slice (some ⟨n, 0, none⟩) len 0)))
    (hb : lk s.σ n = some b) (hbc : ∀ (j : Nat) (v : Value), cells[j]? = some v → b.cells[j]? = some v) (hk : 0 < k) (hl : cells.length = len * k) (hf : allFC cells = true) (hbk : kBox k b = true) (hq : memB q s.al = false)
    (hF : ∀ ρ, rV ρ (F (.slice (some ⟨q, 0, none⟩) n' 0)) = F (rC ρ (.slice (some ⟨q, 0, none⟩) n' 0))) (hN : nbV [q] (F (.slice (some ⟨q, 0, none⟩) n' 0)) = true) (hf' : allFC cells' = true) :
    AOk P s o ⟨rq s c.args.toList, [(n, b)]⟩ ⟨F (.slice (some ⟨q, 0, none⟩) n' 0), [], [(q, .vec e' k' cells')]⟩ :=
  .callO F q n' k' e' cells' (σ := [(n, b)]) (fun B ρ w hB hσ => by
    obtain ⟨A, c', h1, h2⟩ := box_SL (hσ n b List.mem_cons_self) hbc hk hl hf hbk
    rw [hG, h1]
    exact C w A c' h2) hent ho hc hargs (fun m b' h => by simp at h; obtain ⟨rfl, rfl⟩ := h; exact hb) hq hF hN hf'
theorem fun_sliceO {tb : (List (Nat × TI))} (hT : TbOK P tb) {f : FuncId} {fn : Func} {c : Code} (hm : P.follows .mixedOrders = true) (hf : P.funcs[f]? = some fn) (hb : fn.body = some c) (G : Value → List Value) (n k : Nat) (cells : List Value) {A : Option Addr} {cp : Nat} {w : World} (h : SL w A n cp k cells) (hk : 0 < k) (hfc : allFC cells = true) (vs : List Value) (hvs : G (.slice (some ⟨0, 0, none⟩) n 0) = vs) (hG : ∀ ρ, (G (.slice (some ⟨0, 0, none⟩) n 0)).map (rV ρ) = G (rC ρ (.slice (some ⟨0, 0, none⟩) n 0)))
    (nt : Nat) (tm : List (Nat × Value)) (htm : tmOf vs 0 = tm) (hnt : vs.length + (fn.ntmps - vs.length) = nt) (hd : dcode nt c = true) (hnb : allN1 [0] vs = true) (htu : noTup vs = true)
    (F : Value → Value) (n' k' : Nat) (e' : TypeId) (cells' : List Value) (hl' : cells'.length = n' * k') (hk' : 0 < k') (hf' : allFC cells' = true) (hF : ∀ q ρ, rV ρ (F (.slice (some ⟨q, 0, none⟩) n' 0)) = F (rC ρ (.slice (some ⟨q, 0, none⟩) n' 0)))
    (hac : AC P tb 1 c ⟨tm, [(0, .view k cells)], [0], nt⟩ (FQ tb fn.results.toList fun v st => ∃ q, v = F (.slice (some ⟨q, 0, none⟩) n' 0) ∧ lk st.σ q = some (.vec e' k' cells'))) :
    Calls P f (G (.slice A n cp)).toArray w (fun e w' => ∃ A' c', e = .returned (F (.slice A' n' c')) ∧ OwnK w' w.heap.size e' k' (.slice A' n' c') n' cells' ∧ Below w.heap.size w w') := by
  refine (fun_slice hT hm hf hb G n k cells h hk hfc vs hvs hG nt tm htm hnt hd hnb htu _ hac).mono fun e w' he => ?_
  obtain ⟨v, st, ρ, a, ⟨q, rfl, hq⟩, rfl, hs⟩ := he
  obtain ⟨A', c', h10, h11⟩ := vec_own (n := n') (hs.bx _ _ hq).1 hl' hk' hf'
  exact ⟨A', c', by rw [hF, h10], h11, hs.bl⟩
end
end En
end Go.Proofs.YtbageimconenlaaGreat
namespace Go.Proofs.YtbageimconenlaaGreat
open Go.RowKit En
set_option linter.unusedVariables false
namespace En
theorem Ren.rnil {I : Nat} {s : St} (m t : Nat) (C C' : List Value) (e k q j : Nat) (hq : memB q s.al = false) (hm : lk s.σ m = some (.row t C)) (hC : C[j]? = some (.slice none 0 0)) (hC' : C.set j (.slice (some ⟨q, 0, none⟩) 0 0) = C') :
    Ren I s ⟨s.tm, (m, .row t C') :: (q, .vec e k []) :: s.σ, q :: s.al, s.nt⟩ := by
  have hq' : q ∉ s.al := fun hm => by rw [memB_iff.2 hm] at hq; cases hq
  refine ⟨rfl, fun c ρ a w hc hs => ?_⟩
  have hag : agr s.al (upd ρ q (pl4 0 0 0 true)) ρ := upd_agr ρ _ hq'
  obtain ⟨hb1, hb2, hb3⟩ := hs.bx m _ hm
  have hmq : m ≠ q := fun e => hq' (e ▸ hb2)
  have hrow : ∀ n b, lk ((m, Box.row t C') :: (q, Box.vec e k []) :: s.σ) n = some b → (n = m ∧ b = .row t C') ∨ (n = q ∧ b = .vec e k []) ∨ (n ≠ m ∧ n ≠ q ∧ lk s.σ n = some b) := fun n b hb => by
    rw [lk_cons] at hb
    split at hb
    · rename_i e1; subst e1; cases hb; exact .inl ⟨rfl, rfl⟩
    · rw [lk_cons] at hb
      split at hb
      · rename_i e1; subst e1; cases hb; exact .inr (.inl ⟨rfl, rfl⟩)
      · rename_i h1 h2; exact .inr (.inr ⟨fun h => h1 h.symm, fun h => h2 h.symm, hb⟩)
  have hcells : rL (upd ρ q (pl4 0 0 0 true)) C' = rL ρ C := by
    unfold rL
    rw [← hC']
    refine List.ext_getElem? fun i => ?_
    rw [List.getElem?_map, List.getElem?_map, List.getElem?_set]
    split
    · rename_i e1
      subst e1
      rw [hC, if_pos (List.getElem?_eq_some_iff.1 hC).1]
      show some (Value.slice (bif (upd ρ q (pl4 0 0 0 true) q).nil then (upd ρ q (pl4 0 0 0 true) q).alt else some (rA _ _)) 0 (upd ρ q (pl4 0 0 0 true) q).cap) = some (.slice none 0 0)
      rw [upd_same]; rfl
    · cases hi : C[i]? with
      | none => rfl
      | some v => show some _ = some _; rw [hb3 v (List.mem_of_getElem? hi) _ _ hag]
  refine ⟨upd ρ q (pl4 0 0 0 true), hs.df, hs.nt, hs.bl, hs.hB, fun n hn => ?_, fun n hn => List.mem_cons_of_mem _ (hs.al n hn), fun t' v hv => ?_, fun n b hb => ?_, fun n p b b' hn hm' hne hw hh => ?_⟩
  · rw [hag n (hs.al n hn)]; exact hs.fx n hn
  · obtain ⟨h1, h2⟩ := hs.tm t' v hv
    exact ⟨by rw [h2 _ _ hag]; exact h1, h2.mono fun n hn => List.mem_cons_of_mem _ hn⟩
  · rcases hrow n b hb with ⟨rfl, rfl⟩ | ⟨rfl, rfl⟩ | ⟨_, _, hb⟩
    · obtain ⟨r1, r2, r3, r4⟩ := hb1
      refine ⟨⟨?_, ?_, ?_, ?_⟩, List.mem_cons_of_mem _ hb2, fun v hv => ?_⟩
      · rw [hag n hb2]; exact r1
      · rw [hag n hb2]; exact r2
      · rw [hag n hb2]; exact r3
      · rw [hag n hb2, hcells]; exact r4
      · have hv : v ∈ C' := hv
        rw [← hC'] at hv
        rcases List.mem_or_eq_of_mem_set hv with h | h
        · exact (hb3 v h).mono fun n hn => List.mem_cons_of_mem _ hn
        · subst h; exact nbC_NBc (show memB q (q :: s.al) = true from memB_iff.2 List.mem_cons_self)
    · refine ⟨?_, List.mem_cons_self, fun v hv => nomatch hv⟩
      unfold BoxOK
      rw [upd_same]
      exact ⟨Nat.zero_le _, .inl ⟨rfl, ⟨rfl, rfl⟩, rfl⟩⟩
    · obtain ⟨h1, h2, h3⟩ := hs.bx n b hb
      exact ⟨h1.keep (hag n h2) (fun v hv => h3 v hv _ _ hag) (Nat.le_refl _) fun _ _ => rfl, List.mem_cons_of_mem _ h2, fun v hv => (h3 v hv).mono fun n hn => List.mem_cons_of_mem _ hn⟩
  · rcases hrow n b hn with ⟨rfl, rfl⟩ | ⟨rfl, rfl⟩ | ⟨_, _, hn2⟩
    · rcases hrow p b' hm' with ⟨rfl, rfl⟩ | ⟨rfl, rfl⟩ | ⟨_, _, hm2⟩
      · exact hne rfl
      · replace hh : (upd ρ p (pl4 0 0 0 true) p).nil = false ∧ _ := hh
        rw [upd_same] at hh; cases hh.1
      · rw [hag n hb2] at hh
        rw [hag p (hs.bx p b' hm2).2.1] at hh
        exact hs.ap n p _ b' hm hm2 hne trivial hh
    · replace hw : (upd ρ n (pl4 0 0 0 true) n).nil = false := hw
      rw [upd_same] at hw; cases hw
    · have hnl := (hs.bx n b hn2).2.1
      rw [hag n hnl] at hw hh
      rcases hrow p b' hm' with ⟨rfl, rfl⟩ | ⟨rfl, rfl⟩ | ⟨_, _, hm2⟩
      · rw [hag p hb2] at hh
        exact hs.ap n p b _ hn2 hm hne hw hh
      · replace hh : (upd ρ p (pl4 0 0 0 true) p).nil = false ∧ _ := hh
        rw [upd_same] at hh; cases hh.1
      · rw [hag p (hs.bx p b' hm2).2.1] at hh
        exact hs.ap n p b b' hn2 hm2 hne hw hh
end En
end Go.Proofs.YtbageimconenlaaGreat
