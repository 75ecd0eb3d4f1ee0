/- The builtin copy of a list of items onto the head of a row of the call's own. -/
import Derived.Test.YtjbfefkbpnickaaHeld
import Derived.Laws.CopyRow
namespace Go.Proofs.Ytjbfefkbpnickaa
open Go.RowKit
set_option linter.unusedVariables false
section
variable {P : Program} (w : World)
theorem run_copy2 (dT sT ty elem : TypeId) (g D dc : Nat) (A : Option Addr) (L sc : Nat) (base : Nat) (old xs : List (Int × Int))
    (hu : P.underlying dT = some (.slice elem)) (hs : (P.info? elem).map (·.size) = some 2)
    (hown : w.ownsRow base elem 2 (.slice (some ⟨g, 0, none⟩) D dc) D (flat old)) (hr : Sl2 w w.heap.size A L xs) (hfit : L ≤ D) :
    ∃ w', (Builtin.copy_ #[dT, sT] ty #[.slice (some ⟨g, 0, none⟩) D dc, .slice A L sc]).run P w = .ok (goInt L) w' ∧
      w'.ownsRow base elem 2 (.slice (some ⟨g, 0, none⟩) D dc) D (flat (xs ++ old.drop L)) ∧ w.grownBy w' (some g) := by
  have hl : xs.length = L := hr.1
  have hD : old.length = D := by have := hown.1; rw [flat_len] at this; omega
  have hmin : Nat.min L D = L := Nat.min_eq_left hfit
  rcases hown.2 with ⟨h0, _⟩ | ⟨g', cap, cur, hv, hb, hh, hnc, hm, hsz, ht⟩
  · cases h0
  obtain ⟨rfl, rfl⟩ : g = g' ∧ dc = cap := by simpa using hv
  have hcs : (flat xs).length = L * 2 := by rw [flat_len, hl]
  have hfit2 : 0 + 0 + (flat xs).length ≤ cur.size := by
    rw [hcs, hsz]; have := Nat.mul_le_mul_right 2 (Nat.le_trans hfit hnc); omega
  have hst := run_storeCells_at P g 0 elem (flat xs) 0 cur w hh hfit2 (flat_one xs)
  have hload : ∀ a, (0 < L → A = some a) → (loadCells a (L * 2)).run P w = .ok (flat xs).toArray w := by
    intro a ha
    have := run_loadCells_list (P := P) w a (flat xs) (fun j u hu' => by
      have hj : j < (flat xs).length := (List.getElem?_eq_some_iff.1 hu').1
      obtain ⟨b, o, hA, hbB, hc⟩ := hr.2 (by omega)
      have hA2 := ha (by omega)
      rw [hA2] at hA
      injection hA with hA
      subst hA
      have hi : j / 2 < xs.length := by omega
      have hg := List.getElem?_eq_getElem hi
      obtain ⟨f1, f2⟩ := flat_at xs (j / 2) _ hg
      obtain ⟨c1, c2⟩ := hc (j / 2) _ hg
      have hcell : w.cell? ⟨b, o + j, none⟩ = some u := by
        rcases (show j = j / 2 * 2 ∨ j = j / 2 * 2 + 1 by omega) with e | e
        · rw [← e, hu'] at f1; rw [Nat.add_comm o, Nat.add_comm] at c1; rw [← e] at c1; rw [c1, ← f1]
        · rw [← e, hu'] at f2; rw [Nat.add_assoc, ← e] at c2; rw [c2, ← f2]
      unfold Addr.add
      split
      · have h0 : j = 0 := by assumption
        subst h0; simpa using hcell
      · simpa using hcell)
    rw [hcs] at this
    exact this
  refine ⟨w.setRow g (cur.toList.take (0 + 0) ++ flat xs ++ cur.toList.drop (0 + 0 + (flat xs).length)).toArray, ?_, ?_, ?_⟩
  · cases hq : P.info? elem with
    | none => simp [hq] at hs
    | some i =>
      have hi : i.size = 2 := by simpa [hq] using hs
      rcases A with _ | a
      · have hL0 : L = 0 := by
          rcases Nat.eq_zero_or_pos L with h | h
          · exact h
          · obtain ⟨b, o, hA, _⟩ := hr.2 h; cases hA
        subst hL0
        have hx : xs = [] := List.eq_nil_of_length_eq_zero hl
        subst hx
        have hst' := hst
        simp only [flat, List.flatMap_nil] at hst'
        simp [Builtin.copy_, run_underlying hu, Builtin.lenOf, Builtin.firstCells, sizeOf, typeInfo, hq, flat, hst']
      · have hl2 := hload a (fun _ => rfl)
        simp [Builtin.copy_, run_underlying hu, Builtin.lenOf, Builtin.firstCells, sizeOf, typeInfo, hq, hi, hmin, hl2, hst]
  · refine ⟨by rw [flat_len]; simp; omega, .inr ⟨g, dc, _, rfl, hb, setRow_heap w g cur _ elem _ hh, hnc, hm, ?_, ?_⟩⟩
    · simp [hcs, hsz]; have := Nat.mul_le_mul_right 2 (Nat.le_trans hfit hnc); omega
    · have e1 : flat (xs ++ old.drop L) = flat xs ++ (flat old).drop (L * 2) := by
        rw [flat_append]
        congr 1
        have e2 : flat old = flat (old.take L) ++ flat (old.drop L) := by rw [← flat_append, List.take_append_drop]
        have e3 : (flat (old.take L)).length = L * 2 := by rw [flat_len]; simp; omega
        rw [e2, ← e3, List.drop_left]
      rw [e1, ← ht]
      have e4 : (flat xs).length = L * 2 := hcs
      simp only [Nat.add_zero, List.take_zero, List.nil_append, Nat.zero_add, e4]
      rw [List.take_append, e4, List.take_of_length_le (by omega)]
      congr 1
      rw [List.drop_take]
  · exact ⟨rfl, rfl, rfl, by simp, fun k _ hk => setRow_other w g k _ (fun e => hk (by simp [e]))⟩
theorem step_copy2 {ops : Array Oper} {o : Oper} {a : Act} {K : Act → World → Prop} {Q : Exit → Act → World → Prop} {E : Prop} (hgd : o.guard = none) (d s : Operand) (dT sT : TypeId)
    (ho : o.op = .call { callee := .builtin .copy, args := #[d, s], argTypes := #[dT, sT] })
    (elem : TypeId) (g D dc : Nat) (A : Option Addr) (L sc : Nat) (base : Nat) (old xs : List (Int × Int))
    (hu : P.underlying dT = some (.slice elem)) (hsz : (P.info? elem).map (·.size) = some 2) (hd : a.eval d = .slice (some ⟨g, 0, none⟩) D dc) (hs : a.eval s = .slice A L sc)
    (hown : w.ownsRow base elem 2 (.slice (some ⟨g, 0, none⟩) D dc) D (flat old)) (hr : Sl2 w w.heap.size A L xs) (hfit : L ≤ D)
    (h : ∀ w', w'.ownsRow base elem 2 (.slice (some ⟨g, 0, none⟩) D dc) D (flat (xs ++ old.drop L)) → w.grownBy w' (some g) → K (a.put o.dst (goInt L)) w') :
    if Region.wanted o (yielded ops a.tmps) = true then Oper.wp P o a w K Q else E := by
  have hw : Region.wanted o (yielded ops a.tmps) = true := by simp [Region.wanted, hgd]
  rw [if_pos hw]
  obtain ⟨w', hrun, h1, h2⟩ := run_copy2 (P := P) w dT sT o.type elem g D dc A L sc base old xs hu hsz hown hr hfit
  unfold Oper.wp execOp
  simp only [ho, resolve, invoke, builtin, Sem.run_bind, Sem.run_pure, Result.andThen_ok, List.map_toArray, List.map_cons, List.map_nil, hd, hs, hrun]
  exact h w' h1 h2
end
end Go.Proofs.Ytjbfefkbpnickaa
