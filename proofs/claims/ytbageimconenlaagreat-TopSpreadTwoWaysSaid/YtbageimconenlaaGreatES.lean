/- The engine: a slice in, a slice of its own out. -/
import Derived.Test.YtbageimconenlaaGreatED
namespace Go.Proofs.YtbageimconenlaaGreat
open Go.RowKit En
set_option linter.unusedVariables false
namespace En
section
variable {P : Program}
theorem AOk.callOS {s : St} {o : Oper} {c : Call} {g : FuncId} (G : Value → List Value) (n len k : Nat) (cells : List Value) {b : Box} (F : Value → Value) (q n' k' : Nat) (e' : TypeId) (cells' : List Value)
    (C : ∀ (w : World) (A : Option Addr) (c' : Nat), SL w A len c' k cells → Calls P g (G (.slice A len c')).toArray w (fun e w' => ∃ A' c'', e = .returned (F (.slice A' n' c'')) ∧ OwnK w' w.heap.size e' k' (.slice A' n' c'') n' cells' ∧ Below w.heap.size w w'))
    (hent : Enters P g) (ho : o.op = .call c) (hc : c.callee = .value (.func g)) (hargs : evs s c.args.toList = some (G (.slice (some ⟨n, 0, none⟩) len 0))) (hG : ∀ ρ, (G (.slice (some ⟨n, 0, none⟩) len 0)).map (rV ρ) = G (rC ρ (.slice (some ⟨n, 0, none⟩) len 0)))
    (hb : lk s.σ n = some b) (hbc : ∀ (j : Nat) (v : Value), cells[j]? = some v → b.cells[j]? = some v) (hk : 0 < k) (hl : cells.length = len * k) (hf : allFC cells = true) (hbk : kBox k b = true) (hq : memB q s.al = false)
    (hF : ∀ ρ, rV ρ (F (.slice (some ⟨q, 0, none⟩) n' 0)) = F (rC ρ (.slice (some ⟨q, 0, none⟩) n' 0))) (hN : nbV [q] (F (.slice (some ⟨q, 0, none⟩) n' 0)) = true) (hf' : allFC cells' = true) :
    AOk P s o ⟨rq s c.args.toList, [(n, b)]⟩ ⟨F (.slice (some ⟨q, 0, none⟩) n' 0), [], [(q, .vec e' k' cells')]⟩ :=
  .callO F q n' k' e' cells' (σ := [(n, b)]) (fun B ρ w hB hσ => by
    obtain ⟨A, c', h1, h2⟩ := box_SL (hσ n b List.mem_cons_self) hbc hk hl hf hbk
    rw [hG, h1]
    exact C w A c' h2) hent ho hc hargs (fun m b' h => by simp at h; obtain ⟨rfl, rfl⟩ := h; exact hb) hq hF hN hf'
/-- a function of one slice, a slice of its own out -/
theorem fun_sliceO {tb : (List (Nat × TI))} (hT : TbOK P tb) {f : FuncId} {fn : Func} {c : Code} (hm : P.follows .mixedOrders = true) (hf : P.funcs[f]? = some fn) (hb : fn.body = some c) (G : Value → List Value) (n k : Nat) (cells : List Value) {A : Option Addr} {cp : Nat} {w : World} (h : SL w A n cp k cells) (hk : 0 < k) (hfc : allFC cells = true) (vs : List Value) (hvs : G (.slice (some ⟨0, 0, none⟩) n 0) = vs) (hG : ∀ ρ, (G (.slice (some ⟨0, 0, none⟩) n 0)).map (rV ρ) = G (rC ρ (.slice (some ⟨0, 0, none⟩) n 0)))
    (nt : Nat) (tm : List (Nat × Value)) (htm : tmOf vs 0 = tm) (hnt : vs.length + (fn.ntmps - vs.length) = nt) (hd : dcode nt c = true) (hnb : allN1 [0] vs = true) (htu : noTup vs = true)
    (F : Value → Value) (n' k' : Nat) (e' : TypeId) (cells' : List Value) (hl' : cells'.length = n' * k') (hk' : 0 < k') (hf' : allFC cells' = true) (hF : ∀ q ρ, rV ρ (F (.slice (some ⟨q, 0, none⟩) n' 0)) = F (rC ρ (.slice (some ⟨q, 0, none⟩) n' 0)))
    (hac : AC P tb 1 c ⟨tm, [(0, .view k cells)], [0], nt⟩ (FQ tb fn.results.toList fun v st => ∃ q, v = F (.slice (some ⟨q, 0, none⟩) n' 0) ∧ lk st.σ q = some (.vec e' k' cells'))) :
    Calls P f (G (.slice A n cp)).toArray w (fun e w' => ∃ A' c', e = .returned (F (.slice A' n' c')) ∧ OwnK w' w.heap.size e' k' (.slice A' n' c') n' cells' ∧ Below w.heap.size w w') := by
  refine (fun_slice hT hm hf hb G n k cells h hk hfc vs hvs hG nt tm htm hnt hd hnb htu _ hac).mono fun e w' he => ?_
  obtain ⟨v, st, ρ, a, ⟨q, rfl, hq⟩, rfl, hs⟩ := he
  obtain ⟨A', c', h10, h11⟩ := vec_own (n := n') (hs.bx _ _ hq).1 hl' hk' hf'
  exact ⟨A', c', by rw [hF, h10], h11, hs.bl⟩
end
end En
end Go.Proofs.YtbageimconenlaaGreat
