/- Lists of items: elements, one more; items made, live ones. -/
import Derived.Test.YtbageimconenlaaGreatMa
import Derived.Test.YtbageimconenlaaGreatNC
import Derived.Test.YtbageimconenlaaGreatES
namespace Go.Proofs.YtbageimconenlaaGreat
open Go.RowKit En
set_option linter.unusedVariables false
structure It where
  t : Int
  v : Int
def vals (L : List It) : List Int := L.map It.v
def tAt (L : List It) (j : Nat) : Int := match L[j]? with | some x => x.t | none => 0
theorem vals_app (L : List It) (x : It) : vals (L ++ [x]) = vals L ++ [x.v] := by simp [vals]
theorem vals_len (L : List It) : (vals L).length = L.length := by simp [vals]
structure Its (L : List It) (now : Int) : Prop where
  len : L.length ≤ 80
  val : ∀ x ∈ L, -4096 ≤ x.v ∧ x.v ≤ 4096
  tick : ∀ x ∈ L, 0 ≤ x.t ∧ x.t ≤ now
  asc : ∀ (i j : Nat), i ≤ j → j < L.length → tAt L i ≤ tAt L j
theorem Its.tat {L : List It} {now : Int} (h : Its L now) {i : Nat} (hi : i < L.length) : 0 ≤ tAt L i ∧ tAt L i ≤ now := by
  unfold tAt
  rw [List.getElem?_eq_getElem hi]
  exact h.tick _ (List.getElem_mem hi)
theorem Its.vals {L : List It} {now : Int} (h : Its L now) {v : Int} (hv : v ∈ vals L) : -4096 ≤ v ∧ v ≤ 4096 := by
  obtain ⟨x, hx, rfl⟩ := List.mem_map.1 hv
  exact h.val x hx
theorem Its.snoc {L : List It} {now : Int} (h : Its L now) (x : It) (hl : L.length < 80) (hv : -4096 ≤ x.v ∧ x.v ≤ 4096) (ht : 0 ≤ x.t) (hn : now ≤ x.t) : Its (L ++ [x]) x.t := by
  refine ⟨by simp; omega, fun y hy => ?_, fun y hy => ?_, fun i j hij hj => ?_⟩
  · rcases List.mem_append.1 hy with e | e
    · exact h.val y e
    · simp at e; subst e; exact hv
  · rcases List.mem_append.1 hy with e | e
    · have := h.tick y e; omega
    · simp at e; subst e; omega
  · simp at hj
    have old : ∀ k, k < L.length → tAt (L ++ [x]) k = tAt L k := fun k hk => by unfold tAt; rw [List.getElem?_append_left hk]
    have new : tAt (L ++ [x]) L.length = x.t := by unfold tAt; rw [List.getElem?_append_right (Nat.le_refl _)]; simp
    by_cases hjl : j < L.length
    · rw [old i (by omega), old j hjl]; exact h.asc i j hij hjl
    · obtain rfl : j = L.length := by omega
      rw [new]
      by_cases hil : i < L.length
      · rw [old i hil]; have := h.tat hil; omega
      · obtain rfl : i = L.length := by omega
        rw [new]; exact Int.le_refl _
theorem Its.mono {L : List It} {now u : Int} (h : Its L now) (hu : now ≤ u) : Its L u := ⟨h.len, h.val, fun x hx => by have := h.tick x hx; omega, h.asc⟩
def tk (L : List It) (i : Nat) : Int := if i = 0 then 0 else tAt L (i - 1)
theorem tAt_take (L : List It) {i j : Nat} (h : j < i) : tAt (L.take i) j = tAt L j := by
  unfold tAt; rw [List.getElem?_take_of_lt h]
theorem Its.pre {L : List It} {now : Int} (h : Its L now) (i : Nat) (hi : i ≤ L.length) : Its (L.take i) (tk L i) := by
  have hl : (L.take i).length = i := by rw [List.length_take]; omega
  refine ⟨by rw [hl]; have := h.len; omega, fun x hx => h.val x (List.mem_of_mem_take hx), fun x hx => ?_, fun a b hab hb => ?_⟩
  · obtain ⟨j, hj, e⟩ := List.mem_iff_getElem.1 hx
    rw [hl] at hj
    have hx0 := h.tick x (List.mem_of_mem_take hx)
    have e2 : tAt L j = x.t := by
      rw [← tAt_take L hj]; unfold tAt; rw [List.getElem?_eq_getElem (by omega), e]
    have := h.asc j (i - 1) (by omega) (by omega)
    unfold tk
    rw [if_neg (by omega)]
    omega
  · rw [hl] at hb
    rw [tAt_take L (by omega), tAt_take L hb]
    exact h.asc a b hab (by omega)
theorem tk_succ {L : List It} {i : Nat} {x : It} (hx : L[i]? = some x) : tk L (i + 1) = x.t := by
  unfold tk tAt; rw [if_neg (by omega), Nat.add_sub_cancel, hx]
theorem tk_le {L : List It} {now : Int} (h : Its L now) {i : Nat} {x : It} (hx : L[i]? = some x) : tk L i ≤ x.t := by
  have hlt := (List.getElem?_eq_some_iff.1 hx).1
  unfold tk
  split
  · exact (h.tick x (List.mem_of_getElem? hx)).1
  · have := h.asc (i - 1) i (by omega) hlt
    have e : tAt L i = x.t := by unfold tAt; rw [hx]
    omega
def itC (x : It) : List Value := [.int .i64 x.t, .int .i64 x.v]
def itL : List It → List Value
  | [] => []
  | m :: l => itC m ++ itL l
theorem itL_len : ∀ l : List It, (itL l).length = l.length * 2
  | [] => rfl
  | m :: l => by rw [itL, List.length_append, itL_len l]; simp [itC]; omega
theorem itL_append : ∀ l r : List It, itL (l ++ r) = itL l ++ itL r
  | [], r => rfl
  | m :: l, r => by rw [List.cons_append, itL, itL, itL_append l r, List.append_assoc]
theorem itL_at : ∀ (l : List It) (j i : Nat) (m : It), l[j]? = some m → i < 2 → (itL l)[j * 2 + i]? = (itC m)[i]?
  | [], j, i, m, h, _ => by simp at h
  | x :: l, 0, i, m, h, hi => by
    simp at h; subst h
    rw [itL, Nat.zero_mul, Nat.zero_add, List.getElem?_append_left (by simp [itC]; omega)]
  | x :: l, j + 1, i, m, h, hi => by
    simp at h
    rw [itL, List.getElem?_append_right (by simp [itC]; omega)]
    rw [show (j + 1) * 2 + i - (itC x).length = j * 2 + i by simp [itC]; omega]
    exact itL_at l j i m h hi
theorem allFC_it (l : List It) : allFC (itL l) = true := by
  induction l with
  | nil => rfl
  | cons x l ih => exact ih
theorem nonE_itv {l : List It} (k : Nat) (h : 0 < l.length) : nonE (.view k (itL l)) = true := by
  cases l with
  | nil => simp at h
  | cons x l => rfl
theorem info88 : (Tryz.prog.info? 88).map (fun i => (i.size, i.bytes, i.zero.map (·.cells.size))) = some (2, 16, some 2) := by kernel_rfl
theorem info88x : ∃ ie z, Tryz.prog.info? 88 = some ie ∧ ie.size = 2 ∧ ie.bytes = 16 ∧ ie.zero = some z ∧ z.cells.size = 2 := by
  have h := info88
  cases hi : Tryz.prog.info? 88 with
  | none => rw [hi] at h; cases h
  | some ie =>
    rw [hi] at h
    cases hz : ie.zero with
    | none => simp [hz] at h
    | some z =>
      simp [hz] at h
      exact ⟨ie, z, rfl, h.1, h.2.1, hz, h.2.2⟩
theorem agg88 : aggB Tryz.prog 88 = some true := by kernel_rfl
section
variable {s : St} {o : Oper} {c : Call}
theorem oki_idx {A0 off len cc i : Nat} {b : Box} {x ix : Operand} (ho : o.op = .indexAddr 26 x ix) (hx : ev s x = some (.slice (some ⟨A0, off, none⟩) len cc)) (hix : ev s ix = some (.int .i64 (i : Nat))) (hb : En.lk s.σ A0 = some b) (hnb : nonE b = true) (hi : i < len) :
    AOk Tryz.prog s o ⟨rq s [x, ix], [(A0, b)]⟩ ⟨.pointer (some ⟨A0, off + i * 2, none⟩), [], []⟩ := by
  obtain ⟨ie, z, hie, h1, _⟩ := info88x
  refine .quiet fun B => ⟨Does.index (P := Tryz.prog) (B := B) ho hx hix Tryz.underlying26 hie h1 hnb rfl hi, ⟨fun t v h => rq_in h, fun n b' h => ?_⟩, rfl, rfl⟩
  simp at h; obtain ⟨rfl, rfl⟩ := h; exact hb
theorem oki_ld {A0 off : Nat} {b : Box} {x : Operand} {m : It} (ho : o.op = .load 88 x) (hx : ev s x = some (.pointer (some ⟨A0, off, none⟩))) (hb : En.lk s.σ A0 = some b) (hv : ∀ (i : Nat) (v : Value), (itC m)[i]? = some v → b.cells[off + i]? = some v) :
    AOk Tryz.prog s o ⟨rq s [x], [(A0, b)]⟩ ⟨.agg (List.toArray (itC m)), [], []⟩ := by
  obtain ⟨ie, z, hie, h1, _⟩ := info88x
  refine .quiet fun B => ⟨Does.loadRow ho hx hb agg88 hie (by rw [h1]; rfl) hv, ⟨fun t v h => rq_in h, fun n b' h => ?_⟩, rfl, rfl⟩
  simp at h; obtain ⟨rfl, rfl⟩ := h; exact hb
theorem oki_app (q : Nat) {D Y1 nd c2 : Nat} {l : List It} {m : It} {x y : Operand} (hl : l.length = nd) (hlt : nd < 1000000) (ho : o.op = .call c) (hcal : c.callee = .builtin .append) (hargs : c.args = #[x, y]) (hty : c.argTypes = #[26, 26])
    (hx : ev s x = some (.slice (some ⟨D, 0, none⟩) nd 0)) (hy : ev s y = some (.slice (some ⟨Y1, 0, none⟩) 1 c2)) (hD : En.lk s.σ D = some (.vec 88 2 (itL l))) (hY : En.lk s.σ Y1 = some (.vec 88 2 (itC m))) (hq : memB q s.al = false) :
    AOk Tryz.prog s o ⟨rq s [x, y], [(D, .vec 88 2 (itL l)), (Y1, .vec 88 2 (itC m))]⟩ ⟨.slice (some ⟨q, 0, none⟩) (nd + 1) 0, [(D, .gone)], [(q, .vec 88 2 (itL (l ++ [m])))]⟩ := by
  obtain ⟨ie, z, hie, h1, h2, h3, h4⟩ := info88x
  have hC : (itL l).take (nd * 2) = itL l := List.take_of_length_le (by rw [itL_len]; omega)
  have hE : itL (l ++ [m]) = itL l ++ itC m := by rw [itL_append]; show itL l ++ (itC m ++ []) = _; rw [List.append_nil]
  refine ⟨fun B => ?_, ⟨fun t v h => rq_in h, fun n b h => ?_⟩, fun n b h => ?_, .inr fun n b h => ?_, fun n b h => ?_⟩
  · have := Does.append (P := Tryz.prog) (B := B) (s := s) (o := o) (c := c) (t := 26) (e := 88) (x := x) (y := y) (es := 2) (bytes := 16) (len := nd) (m := 1) (q := q) (xs := (itL l).take (nd * 2)) (news := itC m) (up := [(D, .gone)]) (σ := [(D, .vec 88 2 (itL l)), (Y1, .vec 88 2 (itC m))]) ho hcal hargs hty Tryz.underlying26 hie h1 h2 h3 h4 (by decide) (.vec hx List.mem_cons_self (by rw [itL_len]; omega)) (.box hy (List.mem_cons_of_mem _ List.mem_cons_self) (fun j v h => by rw [Nat.zero_add]; exact h) rfl) (fun u hu => by simp only [itC, List.mem_cons, List.not_mem_nil, or_false] at hu; rcases hu with rfl | rfl <;> rfl) (by unfold maxLen; omega) (by omega)
    rw [hC, ← hE] at this
    exact this
  · simp at h; rcases h with ⟨rfl, rfl⟩ | ⟨rfl, rfl⟩ <;> assumption
  · simp at h; obtain ⟨rfl, rfl⟩ := h; exact ⟨_, List.mem_cons_self, rfl⟩
  · simp at h; exact h.2
  · simp at h; rw [h.1]; intro hm; rw [memB_iff.2 hm] at hq; cases hq
end
theorem mv_it (f : Nat → Nat) (l : List It) : (itL l).map (mvC f) = itL l := by
  induction l with
  | nil => rfl
  | cons x l ih => rw [itL, List.map_append, ih]; rfl
theorem mv_itv (f : Nat → Nat) (k : Nat) (l : List It) : mvB f (.view k (itL l)) = .view k (itL l) := by
  show Box.view k _ = _; rw [mv_it]
theorem mv_itr (f : Nat → Nat) (e k : Nat) (l : List It) : mvB f (.vec e k (itL l)) = .vec e k (itL l) := by
  show Box.vec e k _ = _; rw [mv_it]
theorem allNC_it (al : List Nat) (l : List It) : allNC al (itL l) = true := by
  induction l with
  | nil => rfl
  | cons x l ih => exact ih
theorem retI_flat' {v : Int} {w w' : World} {e : Ending} (h : RetI v w e w') : e = .returned (.int .i64 v) ∧ Below w.heap.size w w' := ⟨h.1, h.2 ▸ Below.refl _ _⟩
theorem ent6 : Enters Tryz.prog 6 := enters Tryz.func6 (by kernel_rfl) (by kernel_rfl)
theorem ent8 : Enters Tryz.prog 8 := enters Tryz.func8 (by kernel_rfl) (by kernel_rfl)
theorem ent10 : Enters Tryz.prog 10 := enters Tryz.func10 (by kernel_rfl) (by kernel_rfl)
section
variable {s : St} {o : Oper} {c : Call}
theorem okt_f6 {a n : Int} (hn : 1 ≤ n) (hn2 : n ≤ 9223372036854775807) (ho : o.op = .call c) (hc : c.callee = .value (.func 6)) (hargs : evs s c.args.toList = some [.int .i64 a, .int .i64 n]) : AOk Tryz.prog s o ⟨rq s c.args.toList, []⟩ ⟨.int .i64 (a % n), [], []⟩ :=
  AOk.call (fun w => (made_mod' a n hn hn2 w).mono fun e w' h => retI_flat' h) ent6 ho hc hargs rfl rfl
theorem okt_f8 {a n : Int} (hn : 1 ≤ n) (hn2 : n ≤ 9223372036854775807) (ho : o.op = .call c) (hc : c.callee = .value (.func 8)) (hargs : evs s c.args.toList = some [.int .i64 a, .int .i64 n]) : AOk Tryz.prog s o ⟨rq s c.args.toList, []⟩ ⟨.int .i64 (a % n), [], []⟩ :=
  AOk.call (fun w => (made_int a n hn hn2 w).mono fun e w' h => retI_flat' h) ent8 ho hc hargs rfl rfl
theorem okt_f10 {a : Int} (ha : -9223372036854775808 ≤ a ∧ a ≤ 9223372036854775807) (ho : o.op = .call c) (hc : c.callee = .value (.func 10)) (hargs : evs s c.args.toList = some [.int .i64 a]) : AOk Tryz.prog s o ⟨rq s c.args.toList, []⟩ ⟨.int .i64 (valM a), [], []⟩ :=
  AOk.call (fun w => (made_value a ha w).mono fun e w' h => retI_flat' h) ent10 ho hc hargs rfl rfl
end
def gapI (a w0 : Int) : Int := if a % 8 = 0 then (a.tdiv 8) % (2 * w0 + 2) else if a % 8 = 1 ∨ a % 8 = 2 then 1 + (a.tdiv 8) % 3 else 0
theorem gapI_bd {a w0 : Int} (h1 : 1 ≤ w0) (h2 : w0 ≤ 20) : 0 ≤ gapI a w0 ∧ gapI a w0 ≤ 41 := by
  unfold gapI
  split
  · have h3 := Int.emod_nonneg (a.tdiv 8) (b := 2 * w0 + 2) (by omega)
    have h4 := Int.emod_lt_of_pos (a.tdiv 8) (b := 2 * w0 + 2) (by omega)
    omega
  · split <;> omega
set_option maxRecDepth 100000 in
theorem nt_gap (a w0 : Int) (ha : -9223372036854775808 ≤ a ∧ a ≤ 9223372036854775807) (h1 : 1 ≤ w0) (h2 : w0 ≤ 20) (w : World) : Calls Tryz.prog 68 #[.int .i64 a, .int .i64 w0] w (fun e w' => e = .returned (.int .i64 (gapI a w0)) ∧ Below w.heap.size w w') := by
  have hq1 : -9223372036854775808 ≤ a.tdiv 8 ∧ a.tdiv 8 ≤ 9223372036854775807 := by
    have h8 := Int.tdiv_eq_ediv (a := a) (b := 8)
    rw [show Int.sign 8 = 1 from rfl] at h8
    split at h8 <;> omega
  have w8 : IntKind.i64.wrap (a.tdiv 8) = a.tdiv 8 := IntWalk.i64_in _ (by omega)
  have ww : IntKind.i64.wrap (2 * w0) = 2 * w0 := IntWalk.i64_in _ (by omega)
  have ww2 : IntKind.i64.wrap (2 * w0 + 2) = 2 * w0 + 2 := IntWalk.i64_in _ (by omega)
  have w3 : IntKind.i64.wrap (1 + (a.tdiv 8) % 3) = 1 + (a.tdiv 8) % 3 := IntWalk.i64_in _ (by omega)
  refine fun_flat tblOK mixedP Tryz.func68 rfl [.int .i64 a, .int .i64 w0] w 23 [(0, .int .i64 a), (1, .int .i64 w0)] rfl rfl (by kernel_rfl) rfl rfl rfl _ rfl ?_
  repeat' (first | rw [ww] | rw [ww2] | rw [w3] | rw [w8] | refine AR.auto rfl ?_ | refine AR.man (okt_f6 (by omega) (by omega) rfl rfl rfl) rfl rfl rfl ?_ | refine AR.nil ?_ | refine KF.mk ?_ | refine KT.mk (by kernel_rfl) ?_ | refine SQ.normal ?_ | refine AC.seq ?_ | refine AC.regF ?_ | refine AC.regT ?_ | refine AC.condT rfl ?_ | refine AC.condF rfl ?_ | refine AC.block ?_ | refine BQ.normal ?_ | refine BQ.ret ?_ | refine BQ.here ?_ | refine BQ.there rfl ?_ | refine SQ.ret ?_ | refine SQ.exit ?_ | refine AC.ret ?_ | refine AC.exit ?_ | refine AC.skip ?_ | (refine AR.split rfl (fun h => ?_) (fun h => ?_) <;> rw [h]) | (refine AC.cond rfl (fun h => ?_) (fun h => ?_) <;> rw [h]) | refine FQ.ret rfl rfl ?_ | refine FQ.normal rfl rfl ?_)
  all_goals
    simp only [beq_iff_eq, beq_eq_false_iff_ne, ne_eq] at *
    unfold gapI
    simp_all [resV]
theorem ent68 : Enters Tryz.prog 68 := enters Tryz.func68 (by kernel_rfl) (by kernel_rfl)
theorem ok_nt_gap {a w0 : Int} (ha : -9223372036854775808 ≤ a ∧ a ≤ 9223372036854775807) (h1 : 1 ≤ w0) (h2 : w0 ≤ 20) {st : St} {o : Oper} {cl : Call} (ho : o.op = .call cl) (hc : cl.callee = .value (.func 68)) (hargs : evs st cl.args.toList = some [.int .i64 a, .int .i64 w0]) : AOk Tryz.prog st o ⟨rq st cl.args.toList, []⟩ ⟨.int .i64 (gapI a w0), [], []⟩ :=
  AOk.call (fun w => nt_gap a w0 ha h1 h2 w) ent68 ho hc hargs rfl rfl
def itStep (w0 : Int) (p : List It × Int) (x : It) : List It × Int := (p.1 ++ [⟨p.2 + gapI x.t w0, valM x.v⟩], p.2 + gapI x.t w0)
def itGo (w0 : Int) (l : List It) : List It × Int := l.foldl (itStep w0) ([], 0)
theorem itGo_snoc (w0 : Int) (l : List It) (x : It) : itGo w0 (l ++ [x]) = itStep w0 (itGo w0 l) x := by unfold itGo; rw [List.foldl_append]; rfl
theorem itGo_take {w0 : Int} {l : List It} {i : Nat} {x : It} (h : l[i]? = some x) : itGo w0 (l.take (i + 1)) = itStep w0 (itGo w0 (l.take i)) x := by
  rw [List.take_add_one, h]; exact itGo_snoc w0 _ x
structure GoS (w0 : Int) (l : List It) : Prop where
  len : (itGo w0 l).1.length = l.length
  its : Its (itGo w0 l).1 (itGo w0 l).2
  bd : 0 ≤ (itGo w0 l).2 ∧ (itGo w0 l).2 ≤ 41 * (l.length : Int)
  last : (itGo w0 l).1 ≠ [] → tAt (itGo w0 l).1 ((itGo w0 l).1.length - 1) = (itGo w0 l).2
theorem itGo_take_spec {w0 : Int} (h1 : 1 ≤ w0) (h2 : w0 ≤ 20) (l : List It) : ∀ i, i ≤ l.length → i ≤ 80 → GoS w0 (l.take i)
  | 0, _, _ => { len := rfl, its := { len := (Nat.zero_le _ : ([] : List It).length ≤ 80), val := fun x hx => absurd hx List.not_mem_nil, tick := fun x hx => absurd hx List.not_mem_nil, asc := fun i j _ hj => absurd hj (Nat.not_lt_zero _) }, bd := ⟨Int.le_refl _, Int.le_refl _⟩, last := fun h => absurd rfl h }
  | i + 1, hi, hm => by
    have ih := itGo_take_spec h1 h2 l i (by omega) (by omega)
    obtain ⟨x, hx⟩ : ∃ x, l[i]? = some x := ⟨l[i]'(by omega), List.getElem?_eq_getElem (by omega)⟩
    obtain ⟨g1, g2⟩ := gapI_bd (a := x.t) h1 h2
    have hlen : (l.take i).length = i := by rw [List.length_take]; omega
    have hlen2 : (l.take (i + 1)).length = i + 1 := by rw [List.length_take]; omega
    obtain ⟨a1, a2, a3, a4⟩ := ih
    rw [hlen] at a1 a3
    have e := itGo_take (w0 := w0) hx
    refine ⟨?_, ?_, ?_, fun _ => ?_⟩
    · rw [e, hlen2]; show ((itGo w0 (l.take i)).1 ++ [_]).length = _; simp [a1]
    · rw [e]; exact a2.snoc ⟨_, _⟩ (by omega) (valM_bd x.v) (by show 0 ≤ (itGo w0 (l.take i)).2 + gapI x.t w0; omega) (by show (itGo w0 (l.take i)).2 ≤ (itGo w0 (l.take i)).2 + gapI x.t w0; omega)
    · rw [e, hlen2]; show 0 ≤ (itGo w0 (l.take i)).2 + gapI x.t w0 ∧ (itGo w0 (l.take i)).2 + gapI x.t w0 ≤ _; omega
    · rw [e]
      show tAt ((itGo w0 (l.take i)).1 ++ [_]) (((itGo w0 (l.take i)).1 ++ [_]).length - 1) = (itGo w0 (l.take i)).2 + gapI x.t w0
      unfold tAt
      rw [List.length_append, List.getElem?_append_right (by simp)]
      simp
def R64 (x : It) : Prop := (-9223372036854775808 ≤ x.t ∧ x.t ≤ 9223372036854775807) ∧ (-9223372036854775808 ≤ x.v ∧ x.v ≤ 9223372036854775807)
set_option maxRecDepth 100000 in
set_option maxHeartbeats 1000000 in
theorem nt_items (raw : List It) (n : Nat) (w0 : Int) (hl : raw.length = n) (hr : ∀ x ∈ raw, R64 x) (h1 : 1 ≤ w0) (h2 : w0 ≤ 20) (w : World) (A : Option Addr) (c : Nat) (h : SL w A n c 2 (itL raw)) :
    Calls Tryz.prog 16 #[.slice A n c, .int .i64 w0, .int .i64 80] w (fun e w' => ∃ A' c', e = .returned (.slice A' (min n 80) c') ∧ OwnK w' w.heap.size 88 2 (.slice A' (min n 80) c') (min n 80) (itL (itGo w0 (raw.take (min n 80))).1) ∧ Below w.heap.size w w') := by
  have hLen : ∀ i, i ≤ n → i ≤ 80 → (itGo w0 (raw.take i)).1.length = i := fun i h3 h4 => by
    rw [(itGo_take_spec h1 h2 raw i (by omega) h4).len, List.length_take]; omega
  refine fun_sliceO tblOK mixedP Tryz.func16 rfl (fun s => [s, .int .i64 w0, .int .i64 80]) n 2 (itL raw) h (by decide) (allFC_it raw) [.slice (some ⟨0, 0, none⟩) n 0, .int .i64 w0, .int .i64 80] rfl (fun _ => rfl) 42 [(0, .slice (some ⟨0, 0, none⟩) n 0), (1, .int .i64 w0), (2, .int .i64 80)] rfl rfl (by kernel_rfl) rfl rfl (fun s => s) (min n 80) 2 88 (itL (itGo w0 (raw.take (min n 80))).1) (by rw [itL_len, hLen _ (by omega) (by omega)]) (by decide) (allFC_it _) (fun _ _ => rfl) ?_
  repeat' (first | refine AR.auto rfl ?_ | refine AR.nil ?_ | refine KF.mk ?_ | refine KT.mk (by kernel_rfl) ?_ | refine SQ.normal ?_ | refine AC.seq ?_ | refine AC.regF ?_ | refine AC.regT ?_ | refine AC.condT rfl ?_ | refine AC.condF rfl ?_ | refine AC.block ?_ | refine BQ.normal ?_ | refine BQ.ret ?_ | refine BQ.here ?_ | refine BQ.there rfl ?_ | refine SQ.ret ?_ | refine SQ.exit ?_ | refine AC.ret ?_ | refine AC.exit ?_ | refine AC.skip ?_ | (refine AR.split rfl (fun h => ?_) (fun h => ?_) <;> rw [h]) | (refine AC.cond rfl (fun h => ?_) (fun h => ?_) <;> rw [h]) | refine FQ.ret rfl rfl ?_ | refine FQ.normal rfl rfl ?_)
  refine AC.loop (fun m st => ∃ i : Nat, m = n - i ∧ i ≤ n ∧ i ≤ 80 ∧ st = ⟨[(9, .int .i64 (i : Nat)), (8, .int .i64 (itGo w0 (raw.take i)).2), (7, .slice (some ⟨1, 0, none⟩) i 0), (2, .int .i64 80), (1, .int .i64 w0), (0, .slice (some ⟨0, 0, none⟩) n 0)], [(1, .vec 88 2 (itL (itGo w0 (raw.take i)).1)), (0, .view 2 (itL raw))], [1, 0], 42⟩) n _ ?_ ⟨0, rfl, Nat.zero_le _, Nat.zero_le _, rfl⟩ ?_
  · refine Ren.trans (Ren.vnil 7 88 2 1 rfl rfl) ?_
    exact Ren.mv (tabF []) rfl (fun k hk => by match k, hk with | 0, _ => exact ⟨rfl, rfl⟩) ⟨⟨rfl, rfl⟩, ⟨rfl, rfl⟩, ⟨rfl, rfl⟩, ⟨rfl, rfl⟩, ⟨rfl, rfl⟩, ⟨rfl, rfl⟩, trivial⟩ ⟨⟨by rw [mv_itr]; rfl, rfl, allNC_it _ _⟩, ⟨by rw [mv_itv]; rfl, rfl, allNC_it _ _⟩, trivial⟩ rfl
  intro m st hi
  obtain ⟨i, rfl, hin, hi8, rfl⟩ := hi
  by_cases hlt : i < n
  · have hd : decide ((i : Int) < (n : Int)) = true := by simp only [decide_eq_true_eq]; omega
    by_cases hl8 : i < 80
    · have hd2 : decide ((i : Int) < 80) = true := by simp only [decide_eq_true_eq]; omega
      obtain ⟨x, hx⟩ : ∃ x, raw[i]? = some x := ⟨raw[i]'(by omega), List.getElem?_eq_getElem (by omega)⟩
      have g := itGo_take_spec h1 h2 raw i (by omega) (by omega)
      have gl := g.bd
      rw [List.length_take] at gl
      obtain ⟨g1, g2⟩ := gapI_bd (a := x.t) h1 h2
      have hol := hLen i (by omega) (by omega)
      have eT := itGo_take (w0 := w0) hx
      generalize itGo w0 (raw.take i) = p at *
      obtain ⟨out, t0⟩ := p
      have w1 : IntKind.i64.wrap (t0 + gapI x.t w0) = t0 + gapI x.t w0 := IntWalk.i64_in _ (by simp only at gl; omega)
      obtain ⟨tt, htt⟩ : ∃ tt, t0 + gapI x.t w0 = tt := ⟨_, rfl⟩
      have w4 : IntKind.i64.wrap ((i : Int) + 1) = ((i + 1 : Nat) : Int) := by rw [IntWalk.i64_in _ (by omega)]; rfl
      repeat' (first | rw [hd] | rw [hd2] | rw [w1] | rw [htt] | rw [w4] | refine AR.auto rfl ?_ | refine AR.man (oki_idx (A0 := 0) (i := i) rfl rfl rfl rfl (nonE_itv 2 (by omega)) hlt) rfl rfl rfl ?_ | refine AR.man (ok_ld (A0 := 0) (u := x.t) rfl rfl rfl (by show (itL raw)[_]? = _; rw [show 0 + i * 2 + 0 = i * 2 + 0 from (by omega), itL_at raw i 0 x hx (by decide)]; rfl)) rfl rfl rfl ?_ | refine AR.man (ok_ld (A0 := 0) (u := x.v) rfl rfl rfl (by show (itL raw)[_]? = _; rw [show 0 + i * 2 + 1 = i * 2 + 1 from (by omega), itL_at raw i 1 x hx (by decide)]; rfl)) rfl rfl rfl ?_ | refine AR.man (ok_nt_gap (w0 := w0) (hr x (List.mem_of_getElem? hx)).1 h1 h2 rfl rfl rfl) rfl rfl rfl ?_ | refine AR.man (okt_f10 (hr x (List.mem_of_getElem? hx)).2 rfl rfl rfl) rfl rfl rfl ?_ | refine AR.man (oki_app 4 (l := out) (m := ⟨tt, valM x.v⟩) hol (by omega) rfl rfl rfl rfl rfl rfl rfl rfl rfl) rfl rfl rfl ?_ | refine AR.nil ?_ | refine KF.mk ?_ | refine KT.mk (by kernel_rfl) ?_ | refine SQ.normal ?_ | refine AC.seq ?_ | refine AC.regF ?_ | refine AC.regT ?_ | refine AC.condT rfl ?_ | refine AC.condF rfl ?_ | refine AC.block ?_ | refine BQ.normal ?_ | refine BQ.ret ?_ | refine BQ.here ?_ | refine BQ.there rfl ?_ | refine SQ.ret ?_ | refine SQ.exit ?_ | refine AC.ret ?_ | refine AC.exit ?_ | refine AC.skip ?_ | (refine AR.split rfl (fun h => ?_) (fun h => ?_) <;> rw [h]) | (refine AC.cond rfl (fun h => ?_) (fun h => ?_) <;> rw [h]) | refine FQ.ret rfl rfl ?_ | refine FQ.normal rfl rfl ?_)
      refine ⟨n - (i + 1), _, by omega, ?_, i + 1, rfl, by omega, by omega, rfl⟩
      rw [eT]
      unfold itStep
      simp only [htt]
      exact Ren.mv (tabF [(1, 4)]) rfl (fun k hk => by match k, hk with | 0, _ => exact ⟨rfl, rfl⟩) ⟨⟨rfl, rfl⟩, ⟨rfl, rfl⟩, ⟨rfl, rfl⟩, ⟨rfl, rfl⟩, ⟨rfl, rfl⟩, ⟨rfl, rfl⟩, trivial⟩ ⟨⟨by rw [mv_itr]; rfl, rfl, allNC_it _ _⟩, ⟨by rw [mv_itv]; rfl, rfl, allNC_it _ _⟩, trivial⟩ rfl
    · obtain rfl : i = 80 := by omega
      have hd2 : decide (((80 : Nat) : Int) < 80) = false := rfl
      rw [show min n 80 = 80 by omega]
      repeat' (first | rw [hd] | rw [hd2] | refine AR.auto rfl ?_ | refine AR.nil ?_ | refine KF.mk ?_ | refine KT.mk (by kernel_rfl) ?_ | refine SQ.normal ?_ | refine AC.seq ?_ | refine AC.regF ?_ | refine AC.regT ?_ | refine AC.condT rfl ?_ | refine AC.condF rfl ?_ | refine AC.block ?_ | refine BQ.normal ?_ | refine BQ.ret ?_ | refine BQ.here ?_ | refine BQ.there rfl ?_ | refine SQ.ret ?_ | refine SQ.exit ?_ | refine AC.ret ?_ | refine AC.exit ?_ | refine AC.skip ?_ | (refine AR.split rfl (fun h => ?_) (fun h => ?_) <;> rw [h]) | (refine AC.cond rfl (fun h => ?_) (fun h => ?_) <;> rw [h]) | refine FQ.ret rfl rfl ?_ | refine FQ.normal rfl rfl ?_)
      exact ⟨1, rfl, rfl⟩
  · obtain rfl : i = n := by omega
    have hd : decide ((i : Int) < (i : Int)) = false := by simp
    rw [show min i 80 = i by omega]
    repeat' (first | rw [hd] | refine AR.auto rfl ?_ | refine AR.nil ?_ | refine KF.mk ?_ | refine KT.mk (by kernel_rfl) ?_ | refine SQ.normal ?_ | refine AC.seq ?_ | refine AC.regF ?_ | refine AC.regT ?_ | refine AC.condT rfl ?_ | refine AC.condF rfl ?_ | refine AC.block ?_ | refine BQ.normal ?_ | refine BQ.ret ?_ | refine BQ.here ?_ | refine BQ.there rfl ?_ | refine SQ.ret ?_ | refine SQ.exit ?_ | refine AC.ret ?_ | refine AC.exit ?_ | refine AC.skip ?_ | (refine AR.split rfl (fun h => ?_) (fun h => ?_) <;> rw [h]) | (refine AC.cond rfl (fun h => ?_) (fun h => ?_) <;> rw [h]) | refine FQ.ret rfl rfl ?_ | refine FQ.normal rfl rfl ?_)
    exact ⟨1, rfl, rfl⟩
set_option maxRecDepth 100000 in
set_option maxHeartbeats 1000000 in
theorem nt_live (l : List It) (n : Nat) (now w0 : Int) (lv : List It) (nl : Nat) (hl : l.length = n) (hn : n ≤ 1000) (hT : ∀ x ∈ l, x.t ≤ now) (h1 : 0 ≤ now) (h2 : now ≤ 16777216) (h3 : 1 ≤ w0) (h4 : w0 ≤ 1048576) (hlv : l.filter (fun x => decide (now - w0 < x.t)) = lv) (hnl : lv.length = nl) (w : World) (A : Option Addr) (c : Nat) (h : SL w A n c 2 (itL l)) :
    Calls Tryz.prog 18 #[.slice A n c, .int .i64 now, .int .i64 w0] w (fun e w' => ∃ A' c', e = .returned (.slice A' nl c') ∧ OwnK w' w.heap.size 88 2 (.slice A' nl c') nl (itL lv) ∧ Below w.heap.size w w') := by
  have ww : IntKind.i64.wrap (now - w0) = now - w0 := IntWalk.i64_in _ (by omega)
  refine fun_sliceO tblOK mixedP Tryz.func18 rfl (fun s => [s, .int .i64 now, .int .i64 w0]) n 2 (itL l) h (by decide) (allFC_it l) [.slice (some ⟨0, 0, none⟩) n 0, .int .i64 now, .int .i64 w0] rfl (fun _ => rfl) 34 [(0, .slice (some ⟨0, 0, none⟩) n 0), (1, .int .i64 now), (2, .int .i64 w0)] rfl rfl (by kernel_rfl) rfl rfl (fun s => s) nl 2 88 (itL lv) (by rw [itL_len, hnl]) (by decide) (allFC_it _) (fun _ _ => rfl) ?_
  repeat' (first | refine AR.auto rfl ?_ | refine AR.nil ?_ | refine KF.mk ?_ | refine KT.mk (by kernel_rfl) ?_ | refine SQ.normal ?_ | refine AC.seq ?_ | refine AC.regF ?_ | refine AC.regT ?_ | refine AC.condT rfl ?_ | refine AC.condF rfl ?_ | refine AC.block ?_ | refine BQ.normal ?_ | refine BQ.ret ?_ | refine BQ.here ?_ | refine BQ.there rfl ?_ | refine SQ.ret ?_ | refine SQ.exit ?_ | refine AC.ret ?_ | refine AC.exit ?_ | refine AC.skip ?_ | (refine AR.split rfl (fun h => ?_) (fun h => ?_) <;> rw [h]) | (refine AC.cond rfl (fun h => ?_) (fun h => ?_) <;> rw [h]) | refine FQ.ret rfl rfl ?_ | refine FQ.normal rfl rfl ?_)
  refine AC.loop (fun m st => ∃ (i nd : Nat) (out : List It), m = n - i ∧ i ≤ n ∧ nd = out.length ∧ nd ≤ i ∧ out = (l.take i).filter (fun x => decide (now - w0 < x.t)) ∧ st = ⟨[(12, .int .i64 (i : Nat)), (11, .int .i64 (n : Nat)), (10, .slice (some ⟨0, 0, none⟩) n 0), (7, .slice (some ⟨1, 0, none⟩) nd 0), (2, .int .i64 w0), (1, .int .i64 now), (0, .slice (some ⟨0, 0, none⟩) n 0)], [(1, .vec 88 2 (itL out)), (0, .view 2 (itL l))], [1, 0], 34⟩) n _ ?_ ⟨0, 0, [], rfl, Nat.zero_le _, rfl, Nat.le_refl _, rfl, rfl⟩ ?_
  · refine Ren.trans (Ren.vnil 7 88 2 1 rfl rfl) ?_
    exact Ren.mv (tabF []) rfl (fun k hk => by match k, hk with | 0, _ => exact ⟨rfl, rfl⟩) ⟨⟨rfl, rfl⟩, ⟨rfl, rfl⟩, ⟨rfl, rfl⟩, ⟨rfl, rfl⟩, ⟨rfl, rfl⟩, ⟨rfl, rfl⟩, ⟨rfl, rfl⟩, trivial⟩ ⟨⟨by rw [mv_itr]; rfl, rfl, allNC_it _ _⟩, ⟨by rw [mv_itv]; rfl, rfl, allNC_it _ _⟩, trivial⟩ rfl
  intro m st hi
  obtain ⟨i, nd, out, rfl, hin, hnd, hndi, hout, rfl⟩ := hi
  by_cases hlt : i < n
  · have hd : decide ((i : Int) < (n : Int)) = true := by simp only [decide_eq_true_eq]; omega
    obtain ⟨x, hx⟩ : ∃ x, l[i]? = some x := ⟨l[i]'(by omega), List.getElem?_eq_getElem (by omega)⟩
    have hxt := hT x (List.mem_of_getElem? hx)
    have w4 : IntKind.i64.wrap ((i : Int) + 1) = ((i + 1 : Nat) : Int) := by rw [IntWalk.i64_in _ (by omega)]; rfl
    have hd3 : decide (x.t ≤ now) = true := by simp only [decide_eq_true_eq]; exact hxt
    by_cases hv : now - w0 < x.t
    · have hd2 : decide (x.t > now - w0) = true := by simp only [decide_eq_true_eq]; omega
      have eT : (l.take (i + 1)).filter (fun x => decide (now - w0 < x.t)) = out ++ [x] := by rw [List.take_add_one, hx, hout]; simp [hv]
      repeat' (first | rw [hd] | rw [hd2] | rw [hd3] | rw [ww] | rw [w4] | refine AR.auto rfl ?_ | refine AR.man (oki_idx (A0 := 0) (i := i) rfl rfl rfl rfl (nonE_itv 2 (by omega)) hlt) rfl rfl rfl ?_ | refine AR.man (oki_ld (m := x) rfl rfl rfl (fun jj u hu => by rw [show 0 + i * 2 + jj = i * 2 + jj from (by omega), show (Box.view 2 (itL l)).cells = itL l from rfl, itL_at l i jj x hx (by have := (List.getElem?_eq_some_iff.1 hu).1; simpa [itC] using this)]; exact hu)) rfl rfl rfl ?_ | refine AR.man (oki_app 4 (l := out) (m := x) hnd.symm (by omega) rfl rfl rfl rfl rfl rfl rfl rfl rfl) rfl rfl rfl ?_ | refine AR.nil ?_ | refine KF.mk ?_ | refine KT.mk (by kernel_rfl) ?_ | refine SQ.normal ?_ | refine AC.seq ?_ | refine AC.regF ?_ | refine AC.regT ?_ | refine AC.condT rfl ?_ | refine AC.condF rfl ?_ | refine AC.block ?_ | refine BQ.normal ?_ | refine BQ.ret ?_ | refine BQ.here ?_ | refine BQ.there rfl ?_ | refine SQ.ret ?_ | refine SQ.exit ?_ | refine AC.ret ?_ | refine AC.exit ?_ | refine AC.skip ?_ | (refine AR.split rfl (fun h => ?_) (fun h => ?_) <;> rw [h]) | (refine AC.cond rfl (fun h => ?_) (fun h => ?_) <;> rw [h]) | refine FQ.ret rfl rfl ?_ | refine FQ.normal rfl rfl ?_)
      refine ⟨n - (i + 1), _, by omega, ?_, i + 1, nd + 1, out ++ [x], rfl, by omega, by simp [hnd], by omega, eT.symm, rfl⟩
      exact Ren.mv (tabF [(1, 4)]) rfl (fun k hk => by match k, hk with | 0, _ => exact ⟨rfl, rfl⟩) ⟨⟨rfl, rfl⟩, ⟨rfl, rfl⟩, ⟨rfl, rfl⟩, ⟨rfl, rfl⟩, ⟨rfl, rfl⟩, ⟨rfl, rfl⟩, ⟨rfl, rfl⟩, trivial⟩ ⟨⟨by rw [mv_itr]; rfl, rfl, allNC_it _ _⟩, ⟨by rw [mv_itv]; rfl, rfl, allNC_it _ _⟩, trivial⟩ rfl
    · have hd2 : decide (x.t > now - w0) = false := by simp only [decide_eq_false_iff_not]; omega
      have eT : (l.take (i + 1)).filter (fun x => decide (now - w0 < x.t)) = out := by rw [List.take_add_one, hx, hout]; simp [hv]
      repeat' (first | rw [hd] | rw [hd2] | rw [ww] | rw [w4] | refine AR.auto rfl ?_ | refine AR.man (oki_idx (A0 := 0) (i := i) rfl rfl rfl rfl (nonE_itv 2 (by omega)) hlt) rfl rfl rfl ?_ | refine AR.man (oki_ld (m := x) rfl rfl rfl (fun jj u hu => by rw [show 0 + i * 2 + jj = i * 2 + jj from (by omega), show (Box.view 2 (itL l)).cells = itL l from rfl, itL_at l i jj x hx (by have := (List.getElem?_eq_some_iff.1 hu).1; simpa [itC] using this)]; exact hu)) rfl rfl rfl ?_ | refine AR.nil ?_ | refine KF.mk ?_ | refine KT.mk (by kernel_rfl) ?_ | refine SQ.normal ?_ | refine AC.seq ?_ | refine AC.regF ?_ | refine AC.regT ?_ | refine AC.condT rfl ?_ | refine AC.condF rfl ?_ | refine AC.block ?_ | refine BQ.normal ?_ | refine BQ.ret ?_ | refine BQ.here ?_ | refine BQ.there rfl ?_ | refine SQ.ret ?_ | refine SQ.exit ?_ | refine AC.ret ?_ | refine AC.exit ?_ | refine AC.skip ?_ | (refine AR.split rfl (fun h => ?_) (fun h => ?_) <;> rw [h]) | (refine AC.cond rfl (fun h => ?_) (fun h => ?_) <;> rw [h]) | refine FQ.ret rfl rfl ?_ | refine FQ.normal rfl rfl ?_)
      refine ⟨n - (i + 1), _, by omega, ?_, i + 1, nd, out, rfl, by omega, hnd, by omega, eT.symm, rfl⟩
      exact Ren.mv (tabF []) rfl (fun k hk => by match k, hk with | 0, _ => exact ⟨rfl, rfl⟩) ⟨⟨rfl, rfl⟩, ⟨rfl, rfl⟩, ⟨rfl, rfl⟩, ⟨rfl, rfl⟩, ⟨rfl, rfl⟩, ⟨rfl, rfl⟩, ⟨rfl, rfl⟩, trivial⟩ ⟨⟨by rw [mv_itr]; rfl, rfl, allNC_it _ _⟩, ⟨by rw [mv_itv]; rfl, rfl, allNC_it _ _⟩, trivial⟩ rfl
  · obtain rfl : i = n := by omega
    have hd : decide ((i : Int) < (i : Int)) = false := by simp
    rw [List.take_of_length_le (by omega), hlv] at hout
    subst hout
    repeat' (first | rw [hd] | refine AR.auto rfl ?_ | refine AR.nil ?_ | refine KF.mk ?_ | refine KT.mk (by kernel_rfl) ?_ | refine SQ.normal ?_ | refine AC.seq ?_ | refine AC.regF ?_ | refine AC.regT ?_ | refine AC.condT rfl ?_ | refine AC.condF rfl ?_ | refine AC.block ?_ | refine BQ.normal ?_ | refine BQ.ret ?_ | refine BQ.here ?_ | refine BQ.there rfl ?_ | refine SQ.ret ?_ | refine SQ.exit ?_ | refine AC.ret ?_ | refine AC.exit ?_ | refine AC.skip ?_ | (refine AR.split rfl (fun h => ?_) (fun h => ?_) <;> rw [h]) | (refine AC.cond rfl (fun h => ?_) (fun h => ?_) <;> rw [h]) | refine FQ.ret rfl rfl ?_ | refine FQ.normal rfl rfl ?_)
    exact ⟨1, by rw [hnd, hnl]; rfl, rfl⟩
end Go.Proofs.YtbageimconenlaaGreat
