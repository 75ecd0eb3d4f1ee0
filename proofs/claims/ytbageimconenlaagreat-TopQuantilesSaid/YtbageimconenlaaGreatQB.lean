/- Lists of buckets and of blocks: elements; plain lists; valid ones; totals. -/
import Derived.Test.YtbageimconenlaaGreatQH
namespace Go.Proofs.YtbageimconenlaaGreat
open Go.RowKit En
set_option linter.unusedVariables false
def buC (e : Eb) : List Value := [.int .i64 e.t, .int .i64 (e.lv : Nat)]
def buL : List Eb → List Value
  | [] => []
  | m :: l => buC m ++ buL l
theorem buL_len : ∀ l : List Eb, (buL l).length = l.length * 2
  | [] => rfl
  | m :: l => by rw [buL, List.length_append, buL_len l]; simp [buC]; omega
theorem buL_append : ∀ l r : List Eb, buL (l ++ r) = buL l ++ buL r
  | [], r => rfl
  | m :: l, r => by rw [List.cons_append, buL, buL, buL_append l r, List.append_assoc]
theorem buL_at : ∀ (l : List Eb) (j i : Nat) (m : Eb), l[j]? = some m → i < 2 → (buL l)[j * 2 + i]? = (buC m)[i]?
  | [], j, i, m, h, _ => by simp at h
  | x :: l, 0, i, m, h, hi => by
    simp at h; subst h
    rw [buL, Nat.zero_mul, Nat.zero_add, List.getElem?_append_left (by simp [buC]; omega)]
  | x :: l, j + 1, i, m, h, hi => by
    simp at h
    rw [buL, List.getElem?_append_right (by simp [buC]; omega)]
    rw [show (j + 1) * 2 + i - (buC x).length = j * 2 + i by simp [buC]; omega]
    exact buL_at l j i m h hi
theorem allFC_bu (l : List Eb) : allFC (buL l) = true := by
  induction l with
  | nil => rfl
  | cons x l ih => exact ih
theorem nonE_buv {l : List Eb} (k : Nat) (h : 0 < l.length) : nonE (.view k (buL l)) = true := by
  cases l with
  | nil => simp at h
  | cons x l => rfl
theorem mv_bu (f : Nat → Nat) (l : List Eb) : (buL l).map (mvC f) = buL l := by
  induction l with
  | nil => rfl
  | cons x l ih => rw [buL, List.map_append, ih]; rfl
theorem mv_buv (f : Nat → Nat) (k : Nat) (l : List Eb) : mvB f (.view k (buL l)) = .view k (buL l) := by
  show Box.view k _ = _; rw [mv_bu]
theorem mv_bur (f : Nat → Nat) (e k : Nat) (l : List Eb) : mvB f (.vec e k (buL l)) = .vec e k (buL l) := by
  show Box.vec e k _ = _; rw [mv_bu]
theorem allNC_bu (al : List Nat) (l : List Eb) : allNC al (buL l) = true := by
  induction l with
  | nil => rfl
  | cons x l ih => exact ih
theorem info262 : (Tryz.prog.info? 262).map (fun i => (i.size, i.bytes, i.zero.map (·.cells.size))) = some (2, 16, some 2) := by kernel_rfl
theorem info262x : ∃ ie z, Tryz.prog.info? 262 = some ie ∧ ie.size = 2 ∧ ie.bytes = 16 ∧ ie.zero = some z ∧ z.cells.size = 2 := by
  have h := info262
  cases hi : Tryz.prog.info? 262 with
  | none => rw [hi] at h; cases h
  | some ie =>
    rw [hi] at h
    cases hz : ie.zero with
    | none => simp [hz] at h
    | some z =>
      simp [hz] at h
      exact ⟨ie, z, rfl, h.1, h.2.1, hz, h.2.2⟩
theorem agg262 : aggB Tryz.prog 262 = some true := by kernel_rfl
section
variable {s : St} {o : Oper} {c : Call}
theorem oku_idx {A0 off len cc i : Nat} {b : Box} {x ix : Operand} (ho : o.op = .indexAddr 29 x ix) (hx : ev s x = some (.slice (some ⟨A0, off, none⟩) len cc)) (hix : ev s ix = some (.int .i64 (i : Nat))) (hb : En.lk s.σ A0 = some b) (hnb : nonE b = true) (hi : i < len) :
    AOk Tryz.prog s o ⟨rq s [x, ix], [(A0, b)]⟩ ⟨.pointer (some ⟨A0, off + i * 2, none⟩), [], []⟩ := by
  obtain ⟨ie, z, hie, h1, _⟩ := info262x
  refine .quiet fun B => ⟨Does.index (P := Tryz.prog) (B := B) ho hx hix Tryz.underlying29 hie h1 hnb rfl hi, ⟨fun t v h => rq_in h, fun n b' h => ?_⟩, rfl, rfl⟩
  simp at h; obtain ⟨rfl, rfl⟩ := h; exact hb
theorem oku_ld {A0 off : Nat} {b : Box} {x : Operand} {m : Eb} (ho : o.op = .load 262 x) (hx : ev s x = some (.pointer (some ⟨A0, off, none⟩))) (hb : En.lk s.σ A0 = some b) (hv : ∀ (i : Nat) (v : Value), (buC m)[i]? = some v → b.cells[off + i]? = some v) :
    AOk Tryz.prog s o ⟨rq s [x], [(A0, b)]⟩ ⟨.agg (List.toArray (buC m)), [], []⟩ := by
  obtain ⟨ie, z, hie, h1, _⟩ := info262x
  refine .quiet fun B => ⟨Does.loadRow ho hx hb agg262 hie (by rw [h1]; rfl) hv, ⟨fun t v h => rq_in h, fun n b' h => ?_⟩, rfl, rfl⟩
  simp at h; obtain ⟨rfl, rfl⟩ := h; exact hb
theorem oku_app (q : Nat) {D Y1 nd c2 : Nat} {l : List Eb} {m : Eb} {x y : Operand} (hl : l.length = nd) (hlt : nd < 1000000) (ho : o.op = .call c) (hcal : c.callee = .builtin .append) (hargs : c.args = #[x, y]) (hty : c.argTypes = #[29, 29])
    (hx : ev s x = some (.slice (some ⟨D, 0, none⟩) nd 0)) (hy : ev s y = some (.slice (some ⟨Y1, 0, none⟩) 1 c2)) (hD : En.lk s.σ D = some (.vec 262 2 (buL l))) (hY : En.lk s.σ Y1 = some (.vec 262 2 (buC m))) (hq : memB q s.al = false) :
    AOk Tryz.prog s o ⟨rq s [x, y], [(D, .vec 262 2 (buL l)), (Y1, .vec 262 2 (buC m))]⟩ ⟨.slice (some ⟨q, 0, none⟩) (nd + 1) 0, [(D, .gone)], [(q, .vec 262 2 (buL (l ++ [m])))]⟩ := by
  obtain ⟨ie, z, hie, h1, h2, h3, h4⟩ := info262x
  have hC : (buL l).take (nd * 2) = buL l := List.take_of_length_le (by rw [buL_len]; omega)
  have hE : buL (l ++ [m]) = buL l ++ buC m := by rw [buL_append]; show buL l ++ (buC m ++ []) = _; rw [List.append_nil]
  refine ⟨fun B => ?_, ⟨fun t v h => rq_in h, fun n b h => ?_⟩, fun n b h => ?_, .inr fun n b h => ?_, fun n b h => ?_⟩
  · have := Does.append (P := Tryz.prog) (B := B) (s := s) (o := o) (c := c) (t := 29) (e := 262) (x := x) (y := y) (es := 2) (bytes := 16) (len := nd) (m := 1) (q := q) (xs := (buL l).take (nd * 2)) (news := buC m) (up := [(D, .gone)]) (σ := [(D, .vec 262 2 (buL l)), (Y1, .vec 262 2 (buC m))]) ho hcal hargs hty Tryz.underlying29 hie h1 h2 h3 h4 (by decide) (.vec hx List.mem_cons_self (by rw [buL_len]; omega)) (.box hy (List.mem_cons_of_mem _ List.mem_cons_self) (fun j v h => by rw [Nat.zero_add]; exact h) rfl) (fun u hu => by simp only [buC, List.mem_cons, List.not_mem_nil, or_false] at hu; rcases hu with rfl | rfl <;> rfl) (by unfold maxLen; omega) (by omega)
    rw [hC, ← hE] at this
    exact this
  · simp at h; rcases h with ⟨rfl, rfl⟩ | ⟨rfl, rfl⟩ <;> assumption
  · simp at h; obtain ⟨rfl, rfl⟩ := h; exact ⟨_, List.mem_cons_self, rfl⟩
  · simp at h; exact h.2
  · simp at h; rw [h.1]; intro hm; rw [memB_iff.2 hm] at hq; cases hq
end
theorem info273 : (Tryz.prog.info? 273).map (fun i => (i.size, i.bytes, i.zero.map (·.cells.size))) = some (5, 56, some 5) := by kernel_rfl
theorem info273x : ∃ ie z, Tryz.prog.info? 273 = some ie ∧ ie.size = 5 ∧ ie.bytes = 56 ∧ ie.zero = some z ∧ z.cells.size = 5 := by
  have h := info273
  cases hi : Tryz.prog.info? 273 with
  | none => rw [hi] at h; cases h
  | some ie =>
    rw [hi] at h
    cases hz : ie.zero with
    | none => simp [hz] at h
    | some z =>
      simp [hz] at h
      exact ⟨ie, z, rfl, h.1, h.2.1, hz, h.2.2⟩
theorem agg273 : aggB Tryz.prog 273 = some true := by kernel_rfl
section
variable {s : St} {o : Oper} {c : Call}
theorem okb_idx {A0 off len cc i : Nat} {b : Box} {x ix : Operand} (ho : o.op = .indexAddr 52 x ix) (hx : ev s x = some (.slice (some ⟨A0, off, none⟩) len cc)) (hix : ev s ix = some (.int .i64 (i : Nat))) (hb : En.lk s.σ A0 = some b) (hnb : nonE b = true) (hi : i < len) :
    AOk Tryz.prog s o ⟨rq s [x, ix], [(A0, b)]⟩ ⟨.pointer (some ⟨A0, off + i * 5, none⟩), [], []⟩ := by
  obtain ⟨ie, z, hie, h1, _⟩ := info273x
  refine .quiet fun B => ⟨Does.index (P := Tryz.prog) (B := B) ho hx hix Tryz.underlying52 hie h1 hnb rfl hi, ⟨fun t v h => rq_in h, fun n b' h => ?_⟩, rfl, rfl⟩
  simp at h; obtain ⟨rfl, rfl⟩ := h; exact hb
theorem okb_ld {A0 off : Nat} {b : Box} {x : Operand} {m : Bk} (ho : o.op = .load 273 x) (hx : ev s x = some (.pointer (some ⟨A0, off, none⟩))) (hb : En.lk s.σ A0 = some b) (hv : ∀ (i : Nat) (v : Value), (bkQ m)[i]? = some v → b.cells[off + i]? = some v) :
    AOk Tryz.prog s o ⟨rq s [x], [(A0, b)]⟩ ⟨.agg (List.toArray (bkQ m)), [], []⟩ := by
  obtain ⟨ie, z, hie, h1, _⟩ := info273x
  refine .quiet fun B => ⟨Does.loadRow ho hx hb agg273 hie (by rw [h1]; rfl) hv, ⟨fun t v h => rq_in h, fun n b' h => ?_⟩, rfl, rfl⟩
  simp at h; obtain ⟨rfl, rfl⟩ := h; exact hb
end
theorem ent174 : Enters Tryz.prog 174 := enters Tryz.func174 (by kernel_rfl) (by kernel_rfl)
theorem ent175 : Enters Tryz.prog 175 := enters Tryz.func175 (by kernel_rfl) (by kernel_rfl)
theorem ent211 : Enters Tryz.prog 211 := enters Tryz.func211 (by kernel_rfl) (by kernel_rfl)
theorem ent183 : Enters Tryz.prog 183 := enters Tryz.func183 (by kernel_rfl) (by kernel_rfl)
theorem ent102 : Enters Tryz.prog 102 := enters Tryz.func102 (by kernel_rfl) (by kernel_rfl)
theorem ent127 : Enters Tryz.prog 127 := enters Tryz.func127 (by kernel_rfl) (by kernel_rfl)
set_option maxRecDepth 100000 in
theorem qb_plain (l : List Bk) (n : Nat) (hn : n ≤ 900) (w : World) (A : Option Addr) (c : Nat) (h : BL w A n c l) :
    Calls Tryz.prog 183 #[.slice A n c] w (fun e w' => ∃ A' c', e = .returned (.slice A' n c') ∧ OwnK w' w.heap.size 262 2 (.slice A' n c') n (buL (l.map Bk.e)) ∧ Below w.heap.size w w') := by
  have hl := h.len
  have H := fun_bl tblOK mixedP Tryz.func183 rfl (fun s => [s]) h [.slice (some ⟨0, 0, none⟩) n 0] rfl (fun _ => rfl) 22 [(0, .slice (some ⟨0, 0, none⟩) n 0)] rfl rfl (by kernel_rfl) rfl rfl (fun u st => ∃ q, u = .slice (some ⟨q, 0, none⟩) n 0 ∧ En.lk st.σ q = some (.vec 262 2 (buL (l.map Bk.e)))) (by
    repeat' (first | refine AR.auto rfl ?_ | refine AR.nil ?_ | refine KF.mk ?_ | refine KT.mk (by kernel_rfl) ?_ | refine SQ.normal ?_ | refine AC.seq ?_ | refine AC.regF ?_ | refine AC.regT ?_ | refine AC.condT rfl ?_ | refine AC.condF rfl ?_ | refine AC.block ?_ | refine BQ.normal ?_ | refine BQ.ret ?_ | refine BQ.here ?_ | refine BQ.there rfl ?_ | refine SQ.ret ?_ | refine SQ.exit ?_ | refine AC.ret ?_ | refine AC.exit ?_ | refine AC.skip ?_ | (refine AR.split rfl (fun h => ?_) (fun h => ?_) <;> rw [h]) | (refine AC.cond rfl (fun h => ?_) (fun h => ?_) <;> rw [h]) | refine FQ.ret rfl rfl ?_ | refine FQ.normal rfl rfl ?_)
    refine AC.loop (fun k st => ∃ i : Nat, k = n - i ∧ i ≤ n ∧ st = ⟨[(8, .int .i64 (i : Nat)), (7, .int .i64 (n : Nat)), (6, .slice (some ⟨0, 0, none⟩) n 0), (3, .slice (some ⟨2, 0, none⟩) i 0)], [(2, .vec 262 2 (buL ((l.take i).map Bk.e))), (0, .view 5 (bkQL l)), (1, .deep (entF l))], [2, 1, 0], 22⟩) n _ ?_ ⟨0, rfl, Nat.zero_le _, rfl⟩ ?_
    · refine Ren.trans (Ren.vnil 3 262 2 2 rfl rfl) ?_
      exact Ren.mv (tabF []) rfl (fun k hk => by match k, hk with | 0, _ => exact ⟨rfl, rfl⟩ | 1, _ => exact ⟨rfl, rfl⟩) ⟨⟨rfl, rfl⟩, ⟨rfl, rfl⟩, ⟨rfl, rfl⟩, ⟨rfl, rfl⟩, trivial⟩ ⟨⟨by rw [mv_bur]; rfl, rfl, allNC_bu _ _⟩, ⟨by rw [mv_bkv]; rfl, rfl, nb_bkQ _ _⟩, ⟨rfl, rfl, rfl⟩, trivial⟩ rfl
    intro k st hi
    obtain ⟨i, rfl, hin, rfl⟩ := hi
    by_cases hlt : i < n
    · have hd : decide ((i : Int) < (n : Int)) = true := by simp only [decide_eq_true_eq]; omega
      have w4 : IntKind.i64.wrap ((i : Int) + 1) = ((i + 1 : Nat) : Int) := by rw [IntWalk.i64_in _ (by omega)]; rfl
      obtain ⟨b, hb⟩ : ∃ b, l[i]? = some b := ⟨l[i]'(by omega), List.getElem?_eq_getElem (by omega)⟩
      have eT : (l.take (i + 1)).map Bk.e = (l.take i).map Bk.e ++ [b.e] := by rw [List.take_add_one, hb]; simp
      repeat' (first | rw [hd] | rw [w4] | refine AR.auto rfl ?_ | refine AR.man (okb_idx (A0 := 0) (i := i) rfl rfl rfl rfl (nonE_bkv 5 (by omega)) (by omega)) rfl rfl rfl ?_ | refine AR.man (okb_ld (m := b) rfl rfl rfl (fun jj u hu => by rw [show 0 + i * 5 + jj = i * 5 + jj from (by omega), show (Box.view 5 (bkQL l)).cells = bkQL l from rfl, bkQL_at l i jj b hb (by have := (List.getElem?_eq_some_iff.1 hu).1; simpa [bkQ] using this)]; exact hu)) rfl rfl rfl ?_ | refine AR.man (oku_app 41 (l := (l.take i).map Bk.e) (m := b.e) (by simp; omega) (by omega) rfl rfl rfl rfl rfl rfl rfl rfl rfl) rfl rfl rfl ?_ | refine AR.nil ?_ | refine KF.mk ?_ | refine KT.mk (by kernel_rfl) ?_ | refine SQ.normal ?_ | refine AC.seq ?_ | refine AC.regF ?_ | refine AC.regT ?_ | refine AC.condT rfl ?_ | refine AC.condF rfl ?_ | refine AC.block ?_ | refine BQ.normal ?_ | refine BQ.ret ?_ | refine BQ.here ?_ | refine BQ.there rfl ?_ | refine SQ.ret ?_ | refine SQ.exit ?_ | refine AC.ret ?_ | refine AC.exit ?_ | refine AC.skip ?_ | (refine AR.split rfl (fun h => ?_) (fun h => ?_) <;> rw [h]) | (refine AC.cond rfl (fun h => ?_) (fun h => ?_) <;> rw [h]) | refine FQ.ret rfl rfl ?_ | refine FQ.normal rfl rfl ?_)
      refine ⟨n - (i + 1), _, by omega, ?_, i + 1, rfl, by omega, rfl⟩
      rw [eT]
      exact Ren.mv (tabF [(2, 41)]) rfl (fun k hk => by match k, hk with | 0, _ => exact ⟨rfl, rfl⟩ | 1, _ => exact ⟨rfl, rfl⟩) ⟨⟨rfl, rfl⟩, ⟨rfl, rfl⟩, ⟨rfl, rfl⟩, ⟨rfl, rfl⟩, trivial⟩ ⟨⟨by rw [mv_bur]; rfl, rfl, allNC_bu _ _⟩, ⟨by rw [mv_bkv]; rfl, rfl, nb_bkQ _ _⟩, ⟨rfl, rfl, rfl⟩, trivial⟩ rfl
    · obtain rfl : n = i := by omega
      have hd : decide ((n : Int) < (n : Int)) = false := by simp
      rw [List.take_of_length_le (by omega)]
      repeat' (first | rw [hd] | refine AR.auto rfl ?_ | refine AR.nil ?_ | refine KF.mk ?_ | refine KT.mk (by kernel_rfl) ?_ | refine SQ.normal ?_ | refine AC.seq ?_ | refine AC.regF ?_ | refine AC.regT ?_ | refine AC.condT rfl ?_ | refine AC.condF rfl ?_ | refine AC.block ?_ | refine BQ.normal ?_ | refine BQ.ret ?_ | refine BQ.here ?_ | refine BQ.there rfl ?_ | refine SQ.ret ?_ | refine SQ.exit ?_ | refine AC.ret ?_ | refine AC.exit ?_ | refine AC.skip ?_ | (refine AR.split rfl (fun h => ?_) (fun h => ?_) <;> rw [h]) | (refine AC.cond rfl (fun h => ?_) (fun h => ?_) <;> rw [h]) | refine FQ.ret rfl rfl ?_ | refine FQ.normal rfl rfl ?_)
      exact ⟨2, rfl, rfl⟩)
  refine H.mono fun e w' he => ?_
  obtain ⟨u, st, ρ, a, ⟨q, rfl, hq⟩, rfl, hs⟩ := he
  obtain ⟨A', c', h10, h11⟩ := vec_own (n := n) (hs.bx _ _ hq).1 (by rw [buL_len]; simp [hl]) (by decide) (allFC_bu _)
  exact ⟨A', c', by rw [show rV ρ (.slice (some ⟨q, 0, none⟩) n 0) = rC ρ (.slice (some ⟨q, 0, none⟩) n 0) from rfl, h10], h11, hs.bl⟩
set_option maxRecDepth 100000 in
theorem qb_tick (x : Int) (h0 : 0 ≤ x) (h1 : x ≤ 16777216) (w : World) : Calls Tryz.prog 211 #[.int .i64 x] w (fun e w' => e = .returned (.bool true) ∧ Below w.heap.size w w') := by
  have d1 : decide (x ≥ 0) = true := by simp only [decide_eq_true_eq]; omega
  have d2 : decide (x ≤ 16777216) = true := by simp only [decide_eq_true_eq]; omega
  refine fun_flat tblOK mixedP Tryz.func211 rfl [.int .i64 x] w 9 [(0, .int .i64 x)] rfl rfl (by kernel_rfl) rfl rfl rfl _ rfl ?_
  repeat' (first | rw [d1] | rw [d2] | refine AR.auto rfl ?_ | refine AR.nil ?_ | refine KF.mk ?_ | refine KT.mk (by kernel_rfl) ?_ | refine SQ.normal ?_ | refine AC.seq ?_ | refine AC.regF ?_ | refine AC.regT ?_ | refine AC.condT rfl ?_ | refine AC.condF rfl ?_ | refine AC.block ?_ | refine BQ.normal ?_ | refine BQ.ret ?_ | refine BQ.here ?_ | refine BQ.there rfl ?_ | refine SQ.ret ?_ | refine SQ.exit ?_ | refine AC.ret ?_ | refine AC.exit ?_ | refine AC.skip ?_ | (refine AR.split rfl (fun h => ?_) (fun h => ?_) <;> rw [h]) | (refine AC.cond rfl (fun h => ?_) (fun h => ?_) <;> rw [h]) | refine FQ.ret rfl rfl ?_ | refine FQ.normal rfl rfl ?_)
  rfl
theorem ok_qb_tick {x : Int} (h0 : 0 ≤ x) (h1 : x ≤ 16777216) {st : St} {o : Oper} {cl : Call} (ho : o.op = .call cl) (hc : cl.callee = .value (.func 211)) (hargs : evs st cl.args.toList = some [.int .i64 x]) : AOk Tryz.prog st o ⟨rq st cl.args.toList, []⟩ ⟨.bool true, [], []⟩ :=
  AOk.call (fun w => qb_tick x h0 h1 w) ent211 ho hc hargs rfl rfl
set_option maxRecDepth 100000 in
theorem qb_level (x : Nat) (h1 : x ≤ 30) (w : World) : Calls Tryz.prog 175 #[.int .i64 ((x : Nat))] w (fun e w' => e = .returned (.bool true) ∧ Below w.heap.size w w') := by
  have d1 : decide ((x : Int) ≥ 0) = true := by simp only [decide_eq_true_eq]; omega
  have d2 : decide ((x : Int) ≤ 30) = true := by simp only [decide_eq_true_eq]; omega
  refine fun_flat tblOK mixedP Tryz.func175 rfl [.int .i64 ((x : Nat))] w 9 [(0, .int .i64 ((x : Nat)))] rfl rfl (by kernel_rfl) rfl rfl rfl _ rfl ?_
  repeat' (first | rw [d1] | rw [d2] | refine AR.auto rfl ?_ | refine AR.nil ?_ | refine KF.mk ?_ | refine KT.mk (by kernel_rfl) ?_ | refine SQ.normal ?_ | refine AC.seq ?_ | refine AC.regF ?_ | refine AC.regT ?_ | refine AC.condT rfl ?_ | refine AC.condF rfl ?_ | refine AC.block ?_ | refine BQ.normal ?_ | refine BQ.ret ?_ | refine BQ.here ?_ | refine BQ.there rfl ?_ | refine SQ.ret ?_ | refine SQ.exit ?_ | refine AC.ret ?_ | refine AC.exit ?_ | refine AC.skip ?_ | (refine AR.split rfl (fun h => ?_) (fun h => ?_) <;> rw [h]) | (refine AC.cond rfl (fun h => ?_) (fun h => ?_) <;> rw [h]) | refine FQ.ret rfl rfl ?_ | refine FQ.normal rfl rfl ?_)
  rfl
theorem ok_qb_level {x : Nat} (h1 : x ≤ 30) {st : St} {o : Oper} {cl : Call} (ho : o.op = .call cl) (hc : cl.callee = .value (.func 175)) (hargs : evs st cl.args.toList = some [.int .i64 ((x : Nat))]) : AOk Tryz.prog st o ⟨rq st cl.args.toList, []⟩ ⟨.bool true, [], []⟩ :=
  AOk.call (fun w => qb_level x h1 w) ent175 ho hc hargs rfl rfl
def totE : List Eb → Nat
  | [] => 0
  | e :: l => 2 ^ e.lv + totE l
theorem totE_app : ∀ a b : List Eb, totE (a ++ b) = totE a + totE b
  | [], b => by simp [totE]
  | x :: a, b => by rw [List.cons_append, totE, totE, totE_app a b]; omega
theorem totE_take_le (es : List Eb) (i : Nat) : totE (es.take i) ≤ totE es := by
  have := totE_app (es.take i) (es.drop i)
  rw [List.take_append_drop] at this; omega
theorem shl1 {n : Nat} (hn : n ≤ 30) : IntKind.i64.wrap (1 * 2 ^ min (Int.toNat ((n : Nat) : Int)) IntKind.i64.bits) = ((2 ^ n : Nat) : Int) := by
  have h2 : 2 ^ n ≤ 2 ^ 30 := Nat.pow_le_pow_right (by decide) hn
  have e : ((2 : Int)) ^ n = ((2 ^ n : Nat) : Int) := by simp
  rw [show min (Int.toNat ((n : Nat) : Int)) IntKind.i64.bits = n from by simp [IntKind.bits]; omega, Int.one_mul, e]
  generalize 2 ^ n = z at *
  exact IntWalk.i64_in _ (by omega)
set_option maxRecDepth 100000 in
theorem qb_total (es : List Eb) (n : Nat) (hl : es.length = n) (hn : n ≤ 900) (ht : totE es ≤ 1000) (hlv : ∀ e ∈ es, e.lv ≤ 30) (w : World) (A : Option Addr) (c : Nat) (h : SL w A n c 2 (buL es)) :
    Calls Tryz.prog 102 #[.slice A n c] w (fun e w' => e = .returned (.int .i64 ((totE es : Nat))) ∧ Below w.heap.size w w') := by
  refine fun_sliceF tblOK mixedP Tryz.func102 rfl (fun s => [s]) n 2 (buL es) h (by decide) (allFC_bu _) [.slice (some ⟨0, 0, none⟩) n 0] rfl (fun _ => rfl) 23 [(0, .slice (some ⟨0, 0, none⟩) n 0)] rfl rfl (by kernel_rfl) rfl rfl _ rfl ?_
  repeat' (first | refine AR.auto rfl ?_ | refine AR.nil ?_ | refine KF.mk ?_ | refine KT.mk (by kernel_rfl) ?_ | refine SQ.normal ?_ | refine AC.seq ?_ | refine AC.regF ?_ | refine AC.regT ?_ | refine AC.condT rfl ?_ | refine AC.condF rfl ?_ | refine AC.block ?_ | refine BQ.normal ?_ | refine BQ.ret ?_ | refine BQ.here ?_ | refine BQ.there rfl ?_ | refine SQ.ret ?_ | refine SQ.exit ?_ | refine AC.ret ?_ | refine AC.exit ?_ | refine AC.skip ?_ | (refine AR.split rfl (fun h => ?_) (fun h => ?_) <;> rw [h]) | (refine AC.cond rfl (fun h => ?_) (fun h => ?_) <;> rw [h]) | refine FQ.ret rfl rfl ?_ | refine FQ.normal rfl rfl ?_)
  refine AC.loop (fun k st => ∃ i : Nat, k = n - i ∧ i ≤ n ∧ st = ⟨[(8, .int .i64 (i : Nat)), (7, .int .i64 (n : Nat)), (6, .slice (some ⟨0, 0, none⟩) n 0), (3, .int .i64 ((totE (es.take i) : Nat)))], [(0, .view 2 (buL es))], [0], 23⟩) n _ ?_ ⟨0, rfl, Nat.zero_le _, rfl⟩ ?_
  · exact Ren.mv (tabF []) rfl (fun k hk => by match k, hk with | 0, _ => exact ⟨rfl, rfl⟩) ⟨⟨rfl, rfl⟩, ⟨rfl, rfl⟩, ⟨rfl, rfl⟩, ⟨rfl, rfl⟩, trivial⟩ ⟨⟨by rw [mv_buv]; rfl, rfl, allNC_bu _ _⟩, trivial⟩ rfl
  intro k st hi
  obtain ⟨i, rfl, hin, rfl⟩ := hi
  by_cases hlt : i < n
  · have hd : decide ((i : Int) < (n : Int)) = true := by simp only [decide_eq_true_eq]; omega
    have w4 : IntKind.i64.wrap ((i : Int) + 1) = ((i + 1 : Nat) : Int) := by rw [IntWalk.i64_in _ (by omega)]; rfl
    obtain ⟨b, hb⟩ : ∃ b, es[i]? = some b := ⟨es[i]'(by omega), List.getElem?_eq_getElem (by omega)⟩
    have hbl := hlv b (List.mem_of_getElem? hb)
    have eT : totE (es.take (i + 1)) = totE (es.take i) + 2 ^ b.lv := by rw [List.take_add_one, hb, totE_app]; simp [totE]
    have ht1 := totE_take_le es (i + 1)
    have u1 : IntKind.u64.wrap ((b.lv : Nat) : Int) = ((b.lv : Nat) : Int) := by rw [wu64]; omega
    have hsh := shl1 hbl
    have w5 : IntKind.i64.wrap (((totE (es.take i) : Nat) : Int) + ((2 ^ b.lv : Nat) : Int)) = ((totE (es.take (i + 1)) : Nat) : Int) := by rw [eT, IntWalk.i64_in _ (by omega)]; omega
    repeat' (first | rw [hd] | rw [w4] | rw [u1] | rw [hsh] | rw [w5] | refine AR.auto rfl ?_ | refine AR.man (oku_idx (A0 := 0) (i := i) rfl rfl rfl rfl (nonE_buv 2 (by omega)) (by omega)) rfl rfl rfl ?_ | refine AR.man (oku_ld (m := b) rfl rfl rfl (fun jj u hu => by rw [show 0 + i * 2 + jj = i * 2 + jj from (by omega), show (Box.view 2 (buL es)).cells = buL es from rfl, buL_at es i jj b hb (by have := (List.getElem?_eq_some_iff.1 hu).1; simpa [buC] using this)]; exact hu)) rfl rfl rfl ?_ | refine AR.man (ok_qb_level hbl rfl rfl rfl) rfl rfl rfl ?_ | refine AR.nil ?_ | refine KF.mk ?_ | refine KT.mk (by kernel_rfl) ?_ | refine SQ.normal ?_ | refine AC.seq ?_ | refine AC.regF ?_ | refine AC.regT ?_ | refine AC.condT rfl ?_ | refine AC.condF rfl ?_ | refine AC.block ?_ | refine BQ.normal ?_ | refine BQ.ret ?_ | refine BQ.here ?_ | refine BQ.there rfl ?_ | refine SQ.ret ?_ | refine SQ.exit ?_ | refine AC.ret ?_ | refine AC.exit ?_ | refine AC.skip ?_ | (refine AR.split rfl (fun h => ?_) (fun h => ?_) <;> rw [h]) | (refine AC.cond rfl (fun h => ?_) (fun h => ?_) <;> rw [h]) | refine FQ.ret rfl rfl ?_ | refine FQ.normal rfl rfl ?_)
    refine ⟨n - (i + 1), _, by omega, ?_, i + 1, rfl, by omega, rfl⟩
    exact Ren.mv (tabF []) rfl (fun k hk => by match k, hk with | 0, _ => exact ⟨rfl, rfl⟩) ⟨⟨rfl, rfl⟩, ⟨rfl, rfl⟩, ⟨rfl, rfl⟩, ⟨rfl, rfl⟩, trivial⟩ ⟨⟨by rw [mv_buv]; rfl, rfl, allNC_bu _ _⟩, trivial⟩ rfl
  · obtain rfl : n = i := by omega
    have hd : decide ((n : Int) < (n : Int)) = false := by simp
    rw [List.take_of_length_le (by omega)]
    repeat' (first | rw [hd] | refine AR.auto rfl ?_ | refine AR.nil ?_ | refine KF.mk ?_ | refine KT.mk (by kernel_rfl) ?_ | refine SQ.normal ?_ | refine AC.seq ?_ | refine AC.regF ?_ | refine AC.regT ?_ | refine AC.condT rfl ?_ | refine AC.condF rfl ?_ | refine AC.block ?_ | refine BQ.normal ?_ | refine BQ.ret ?_ | refine BQ.here ?_ | refine BQ.there rfl ?_ | refine SQ.ret ?_ | refine SQ.exit ?_ | refine AC.ret ?_ | refine AC.exit ?_ | refine AC.skip ?_ | (refine AR.split rfl (fun h => ?_) (fun h => ?_) <;> rw [h]) | (refine AC.cond rfl (fun h => ?_) (fun h => ?_) <;> rw [h]) | refine FQ.ret rfl rfl ?_ | refine FQ.normal rfl rfl ?_)
    all_goals rfl
set_option maxRecDepth 100000 in
theorem qb_btotal (l : List Bk) (n : Nat) (hn : n ≤ 900) (ht : totE (l.map Bk.e) ≤ 1000) (hlv : ∀ e ∈ l.map Bk.e, e.lv ≤ 30) (w : World) (A : Option Addr) (c : Nat) (h : BL w A n c l) :
    Calls Tryz.prog 127 #[.slice A n c] w (fun e w' => e = .returned (.int .i64 ((totE (l.map Bk.e) : Nat))) ∧ Below w.heap.size w w') := by
  have hl := h.len
  refine (fun_bl tblOK mixedP Tryz.func127 rfl (fun s => [s]) h [.slice (some ⟨0, 0, none⟩) n 0] rfl (fun _ => rfl) 6 [(0, .slice (some ⟨0, 0, none⟩) n 0)] rfl rfl (by kernel_rfl) rfl rfl (fun u st => u = .int .i64 ((totE (l.map Bk.e) : Nat))) (by
    repeat' (first | refine AR.auto rfl ?_ | refine AR.man (AOk.callBLO (fun s => [s]) 0 1 n l (fun s => s) 41 n 2 262 (buL (l.map Bk.e)) (fun w A c h => qb_plain l n hn w A c h) ent183 rfl rfl rfl (fun _ => rfl) rfl rfl rfl rfl hl rfl (fun _ => rfl) rfl (allFC_bu _)) rfl rfl rfl ?_ | refine AR.man (AOk.callS (fun s => [s]) 41 n 2 (buL (l.map Bk.e)) (fun w A c h => qb_total (l.map Bk.e) n (by simp [hl]) hn ht hlv w A c h) ent102 rfl rfl rfl (fun _ => rfl) rfl (fun _ _ h => h) (by decide) (by rw [buL_len]; simp [hl]) (allFC_bu _) rfl rfl) rfl rfl rfl ?_ | refine AR.nil ?_ | refine KF.mk ?_ | refine KT.mk (by kernel_rfl) ?_ | refine SQ.normal ?_ | refine AC.seq ?_ | refine AC.regF ?_ | refine AC.regT ?_ | refine AC.condT rfl ?_ | refine AC.condF rfl ?_ | refine AC.block ?_ | refine BQ.normal ?_ | refine BQ.ret ?_ | refine BQ.here ?_ | refine BQ.there rfl ?_ | refine SQ.ret ?_ | refine SQ.exit ?_ | refine AC.ret ?_ | refine AC.exit ?_ | refine AC.skip ?_ | (refine AR.split rfl (fun h => ?_) (fun h => ?_) <;> rw [h]) | (refine AC.cond rfl (fun h => ?_) (fun h => ?_) <;> rw [h]) | refine FQ.ret rfl rfl ?_ | refine FQ.normal rfl rfl ?_)
    all_goals rfl)).mono fun e w' he => ?_
  obtain ⟨v, s, ρ, a, rfl, rfl, hs⟩ := he
  exact ⟨rfl, hs.bl⟩
set_option maxRecDepth 100000 in
theorem qb_allowed (lv : Nat) (b : Int) (h1 : lv ≤ 30) (b1 : 1 ≤ b) (b2 : b ≤ 65536) (hb : ((2 ^ lv : Nat) : Int) ≤ b + 1) (w : World) :
    Calls Tryz.prog 215 #[.int .i64 ((lv : Nat)), .int .i64 b] w (fun e w' => e = .returned (.int .i64 0) ∧ Below w.heap.size w w') := by
  have d1 : decide ((lv : Int) < 0) = false := by simp only [decide_eq_false_iff_not]; omega
  have d2 : decide ((lv : Int) > 30) = false := by simp only [decide_eq_false_iff_not]; omega
  have d3 : decide (b < 1) = false := by simp only [decide_eq_false_iff_not]; omega
  have d4 : decide (b > 65536) = false := by simp only [decide_eq_false_iff_not]; omega
  have w1 : IntKind.i64.wrap (b + 1) = b + 1 := IntWalk.i64_in _ (by omega)
  refine fun_flat tblOK mixedP Tryz.func215 rfl [.int .i64 ((lv : Nat)), .int .i64 b] w 48 [(0, .int .i64 ((lv : Nat))), (1, .int .i64 b)] rfl rfl (by kernel_rfl) rfl rfl rfl _ rfl ?_
  repeat' (first | rw [d1] | rw [d2] | rw [d3] | rw [d4] | refine AR.auto rfl ?_ | refine AR.nil ?_ | refine KF.mk ?_ | refine KT.mk (by kernel_rfl) ?_ | refine SQ.normal ?_ | refine AC.seq ?_ | refine AC.regF ?_ | refine AC.regT ?_ | refine AC.condT rfl ?_ | refine AC.condF rfl ?_ | refine AC.block ?_ | refine BQ.normal ?_ | refine BQ.ret ?_ | refine BQ.here ?_ | refine BQ.there rfl ?_ | refine SQ.ret ?_ | refine SQ.exit ?_ | refine AC.ret ?_ | refine AC.exit ?_ | refine AC.skip ?_ | (refine AR.split rfl (fun h => ?_) (fun h => ?_) <;> rw [h]) | (refine AC.cond rfl (fun h => ?_) (fun h => ?_) <;> rw [h]) | refine FQ.ret rfl rfl ?_ | refine FQ.normal rfl rfl ?_)
  refine AC.loop (fun k st => ∃ i : Nat, k = lv + 1 - i ∧ i ≤ lv + 1 ∧ st = ⟨[(6, .int .i64 (i : Nat)), (5, .int .i64 0), (1, .int .i64 b), (0, .int .i64 (lv : Nat))], [], [], 48⟩) (lv + 1) _ ?_ ⟨0, rfl, Nat.zero_le _, rfl⟩ ?_
  · exact Ren.mv (tabF []) rfl (fun k hk => absurd hk (Nat.not_lt_zero _)) ⟨⟨rfl, rfl⟩, ⟨rfl, rfl⟩, ⟨rfl, rfl⟩, ⟨rfl, rfl⟩, trivial⟩ trivial rfl
  intro k st hi
  obtain ⟨i, rfl, hin, rfl⟩ := hi
  by_cases hlt : i ≤ lv
  · have hd : decide ((i : Int) ≤ (lv : Int)) = true := by simp only [decide_eq_true_eq]; omega
    have w4 : IntKind.i64.wrap ((i : Int) + 1) = ((i + 1 : Nat) : Int) := by rw [IntWalk.i64_in _ (by omega)]; rfl
    have u1 : IntKind.u64.wrap (i : Int) = (i : Int) := by rw [wu64]; omega
    have hsh := shl1 (n := i) (by omega)
    have hp : 2 ^ i ≤ 2 ^ lv := Nat.pow_le_pow_right (by decide) hlt
    have hd2 : decide (((2 ^ i : Nat) : Int) > b + 1) = false := by simp only [decide_eq_false_iff_not]; omega
    repeat' (first | rw [hd] | rw [w4] | rw [u1] | rw [w1] | rw [hsh] | rw [hd2] | refine AR.auto rfl ?_ | refine AR.nil ?_ | refine KF.mk ?_ | refine KT.mk (by kernel_rfl) ?_ | refine SQ.normal ?_ | refine AC.seq ?_ | refine AC.regF ?_ | refine AC.regT ?_ | refine AC.condT rfl ?_ | refine AC.condF rfl ?_ | refine AC.block ?_ | refine BQ.normal ?_ | refine BQ.ret ?_ | refine BQ.here ?_ | refine BQ.there rfl ?_ | refine SQ.ret ?_ | refine SQ.exit ?_ | refine AC.ret ?_ | refine AC.exit ?_ | refine AC.skip ?_ | (refine AR.split rfl (fun h => ?_) (fun h => ?_) <;> rw [h]) | (refine AC.cond rfl (fun h => ?_) (fun h => ?_) <;> rw [h]) | refine FQ.ret rfl rfl ?_ | refine FQ.normal rfl rfl ?_)
    refine ⟨lv + 1 - (i + 1), _, by omega, ?_, i + 1, rfl, by omega, rfl⟩
    exact Ren.mv (tabF []) rfl (fun k hk => absurd hk (Nat.not_lt_zero _)) ⟨⟨rfl, rfl⟩, ⟨rfl, rfl⟩, ⟨rfl, rfl⟩, ⟨rfl, rfl⟩, trivial⟩ trivial rfl
  · have hd : decide ((i : Int) ≤ (lv : Int)) = false := by simp only [decide_eq_false_iff_not]; omega
    repeat' (first | rw [hd] | refine AR.auto rfl ?_ | refine AR.nil ?_ | refine KF.mk ?_ | refine KT.mk (by kernel_rfl) ?_ | refine SQ.normal ?_ | refine AC.seq ?_ | refine AC.regF ?_ | refine AC.regT ?_ | refine AC.condT rfl ?_ | refine AC.condF rfl ?_ | refine AC.block ?_ | refine BQ.normal ?_ | refine BQ.ret ?_ | refine BQ.here ?_ | refine BQ.there rfl ?_ | refine SQ.ret ?_ | refine SQ.exit ?_ | refine AC.ret ?_ | refine AC.exit ?_ | refine AC.skip ?_ | (refine AR.split rfl (fun h => ?_) (fun h => ?_) <;> rw [h]) | (refine AC.cond rfl (fun h => ?_) (fun h => ?_) <;> rw [h]) | refine FQ.ret rfl rfl ?_ | refine FQ.normal rfl rfl ?_)
    all_goals rfl
theorem ok_qb_allowed {lv : Nat} {b : Int} (h1 : lv ≤ 30) (b1 : 1 ≤ b) (b2 : b ≤ 65536) (hb : ((2 ^ lv : Nat) : Int) ≤ b + 1) {st : St} {o : Oper} {cl : Call} (ho : o.op = .call cl) (hc : cl.callee = .value (.func 215)) (hargs : evs st cl.args.toList = some [.int .i64 ((lv : Nat)), .int .i64 b]) : AOk Tryz.prog st o ⟨rq st cl.args.toList, []⟩ ⟨.int .i64 0, [], []⟩ :=
  AOk.call (fun w => qb_allowed lv b h1 b1 b2 hb w) ent215 ho hc hargs rfl rfl
end Go.Proofs.YtbageimconenlaaGreat
