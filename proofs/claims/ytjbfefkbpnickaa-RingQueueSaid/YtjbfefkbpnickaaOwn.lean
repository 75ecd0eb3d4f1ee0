/- Rows of items of the call's own. -/
import Derived.Test.YtjbfefkbpnickaaItem
namespace Go.Proofs.Ytjbfefkbpnickaa
open Go.RowKit
set_option linter.unusedVariables false
theorem flat_cons (p : (Int × Int)) (l : List (Int × Int)) : flat (p :: l) = .int .i64 p.1 :: .int .i64 p.2 :: flat l := by simp [flat, itC]
theorem flat_append (l m : List (Int × Int)) : flat (l ++ m) = flat l ++ flat m := by simp [flat]
theorem flat_len : ∀ l : List (Int × Int), (flat l).length = l.length * 2
  | [] => rfl
  | p :: l => by rw [flat_cons]; simp [flat_len l]; omega
theorem flat_at : ∀ (l : List (Int × Int)) (i : Nat) (p : (Int × Int)), l[i]? = some p → (flat l)[i * 2]? = some (.int .i64 p.1) ∧ (flat l)[i * 2 + 1]? = some (.int .i64 p.2)
  | [], _, _, h => by simp at h
  | q :: l, 0, p, h => by simp at h; subst h; simp [flat_cons]
  | q :: l, i + 1, p, h => by
    have := flat_at l i p (by simpa using h)
    rw [flat_cons, show (i + 1) * 2 = i * 2 + 1 + 1 by omega]
    simpa using this
theorem flat_set : ∀ (l : List (Int × Int)) (i : Nat) (p : (Int × Int)), ((flat l).set (i * 2) (.int .i64 p.1)).set (i * 2 + 1) (.int .i64 p.2) = flat (l.set i p)
  | [], _, _ => by simp [flat]
  | q :: l, 0, p => by simp [flat_cons]
  | q :: l, i + 1, p => by
    rw [flat_cons, show (i + 1) * 2 = i * 2 + 1 + 1 by omega]
    simp only [List.set_cons_succ, flat_cons]
    rw [flat_set l i p]
theorem flat_rep (n : Nat) : flat (List.replicate n (0, 0)) = List.replicate (n * 2) (.int .i64 0) := by
  induction n with
  | zero => rfl
  | succ n ih => rw [List.replicate_succ, flat_cons, ih, show (n + 1) * 2 = n * 2 + 1 + 1 by omega, List.replicate_succ, List.replicate_succ]
theorem flat_one (l : List (Int × Int)) : ∀ u ∈ flat l, u.oneCell' = true := by
  intro u hu
  simp only [flat, List.mem_flatMap, itC, List.mem_cons, List.not_mem_nil, or_false] at hu
  obtain ⟨p, _, hu⟩ := hu
  rcases hu with rfl | rfl <;> rfl
theorem made2 (n : Nat) : (madeCells (Value.agg #[.int .i64 0, .int .i64 0]).cells (n * 2)).toList = flat (List.replicate n (0, 0)) := by
  rw [flat_rep]
  apply List.ext_getElem?
  intro j
  by_cases hj : j < n * 2
  · have : j % 2 = 0 ∨ j % 2 = 1 := by omega
    rcases this with h | h <;> simp [madeCells, hj, h, Value.cells]
  · simp [madeCells, hj]
section
variable {w w' : World} {base n c : Nat} {A : Option Addr} {l : List (Int × Int)} {e : TypeId}
theorem Sl2.of_own (h : w.ownsRow base e 2 (.slice A n c) n (flat l)) : Sl2 w w.heap.size A n l := by
  have hl : l.length = n := by have := h.1; rw [flat_len] at this; omega
  refine ⟨hl, fun hn => ?_⟩
  rcases h.2 with ⟨_, h0⟩ | ⟨g, cap, cur, hv, hb, hh, hnc, hm, hs, ht⟩
  · omega
  · injection hv with hA
    subst hA
    have hlt := (h.lt g rfl).2
    have hc : ∀ j u, (flat l)[j]? = some u → w.cell? ⟨g, j, none⟩ = some u := fun j u hu => by
      have := h.cells (g := g) rfl j u hu
      unfold Addr.add at this
      split at this
      · have h0 : j = 0 := by assumption
        subst h0; exact this
      · simpa using this
    refine ⟨g, 0, rfl, hlt, fun i p hp => ?_⟩
    obtain ⟨h1, h2⟩ := flat_at l i p hp
    rw [Nat.zero_add]
    exact ⟨hc _ _ h1, hc _ _ h2⟩
theorem own_slice2 {v : Value} {xs : List Value} (h : w.ownsRow base e 2 v n xs) : ∃ A c, v = .slice A n c ∧ n ≤ c ∧ c ≤ maxLen := by
  rcases h.2 with ⟨hv, h0⟩ | ⟨g, cap, cur, hv, hb, hh, hnc, hm, hs, ht⟩
  · subst h0; exact ⟨none, 0, hv, Nat.le_refl _, Nat.zero_le _⟩
  · exact ⟨_, cap, hv, hnc, hm⟩
theorem own_form2 {v : Value} {xs : List Value} (h : w.ownsRow base e 2 v n xs) (hn : 0 < n) :
    ∃ g cap, v = .slice (some ⟨g, 0, none⟩) n cap ∧ base ≤ g ∧ g < w.heap.size ∧ n ≤ cap ∧ cap ≤ maxLen := by
  rcases h.2 with ⟨_, h0⟩ | ⟨g, cap, cur, hv, hb, hh, hnc, hm, hs, ht⟩
  · omega
  · exact ⟨g, cap, hv, hb, (h.lt g (by rw [hv]; rfl)).2, hnc, hm⟩
theorem ownEmpty2 (w : World) (e : TypeId) : (w.alloc (.cells #[] e)).ownsRow w.heap.size e 2 (.slice (some ⟨w.heap.size, 0, none⟩) 0 0) 0 [] :=
  ⟨rfl, .inr ⟨w.heap.size, 0, #[], rfl, Nat.le_refl _, heap_alloc_new w _, Nat.le_refl _, Nat.zero_le _, rfl, rfl⟩⟩
theorem own_nil2 (w : World) (base : Nat) (e : TypeId) : w.ownsRow base e 2 (.slice none 0 0) 0 [] := ⟨rfl, .inl ⟨rfl, rfl⟩⟩
theorem own_below {k : Nat} {v : Value} {xs : List Value} (h : w.ownsRow base e k v n xs) (hb : Below w.heap.size w w') : w'.ownsRow base e k v n xs := by
  refine ⟨h.1, ?_⟩
  rcases h.2 with hn | ⟨g, cap, cur, hv, hbg, hgg, rest⟩
  · exact .inl hn
  · exact .inr ⟨g, cap, cur, hv, hbg, (hb.block g (Array.getElem?_eq_some_iff.1 hgg).1).trans hgg, rest⟩
theorem own_more {k base' : Nat} {v : Value} {xs : List Value} (h : w.ownsRow base e k v n xs) (hb : base' ≤ base) : w.ownsRow base' e k v n xs := by
  refine ⟨h.1, ?_⟩
  rcases h.2 with hn | ⟨g, cap, cur, hv, hbg, rest⟩
  · exact .inl hn
  · exact .inr ⟨g, cap, cur, hv, by omega, rest⟩
theorem stored2 {g : Nat} (h : w.ownsRow base e 2 (.slice (some ⟨g, 0, none⟩) n c) n (flat l)) (j : Nat) (p : (Int × Int)) :
    ((w.setCell ⟨g, j * 2, none⟩ (.int .i64 p.1)).setCell ⟨g, j * 2 + 1, none⟩ (.int .i64 p.2)).ownsRow base e 2 (.slice (some ⟨g, 0, none⟩) n c) n (flat (l.set j p)) := by
  rw [← flat_set]
  exact ((h.stored (j * 2) _).1.stored (j * 2 + 1) _).1
end
section
variable {P : Program} (w : World)
/-- append of a list of items, onto a row of the call's own -/
theorem run_append_sl2 (base : Nat) (t ty e : TypeId) (i : TypeInfo) (z : Value) (bytes : Nat) (ht : P.underlying t = some (.slice e)) (hi : P.info? e = some i) (hz : i.zero = some z)
    (hsize : i.size = 2) (hby : i.bytes = bytes) (hzs : z.cells.size = 2)
    (v : Value) (n : Nat) (xs : List Value) (hown : w.ownsRow base e 2 v n xs)
    (B : Nat) (A : Option Addr) (m c : Nat) (news : List (Int × Int)) (hr : Sl2 w B A m news)
    (h63 : n + m ≤ maxLen) (hbytes : (n + m) * bytes ≤ 140737488355328) (hbase : base ≤ w.heap.size) :
    ∃ v' w', (Builtin.append_ #[t, t] ty #[v, .slice A m c]).run P w = .ok v' w' ∧ w'.ownsRow base e 2 v' (n + m) (xs ++ flat news) ∧ w.grownBy w' v.ownBlock ∧
      (v'.ownBlock = v.ownBlock ∨ v'.ownBlock = some w.heap.size) := by
  have h1 := flat_one news
  rcases Nat.eq_zero_or_pos m with h0 | h0
  · subst h0
    have hn : news = [] := List.eq_nil_of_length_eq_zero hr.1
    subst hn
    rcases A with _ | ad
    · refine ⟨v, w, ?_, by simpa [flat] using hown, World.grownBy.refl w _, .inl rfl⟩
      rcases hown.2 with ⟨rfl, rfl⟩ | ⟨g, cap, cur, rfl, _, _, hnc, _⟩
      · simp [Builtin.append_, run_underlying ht, sizeOf, typeInfo, hi, Builtin.lenOf, Builtin.firstCells]
      · simp [Builtin.append_, run_underlying ht, sizeOf, typeInfo, hi, Builtin.lenOf, Builtin.firstCells, hnc, storeCells]
    · obtain ⟨v', w', hrun, h2, h3, _, h5⟩ := run_append_own_at (P := P) w base t ty e i z 2 bytes ht hi hz hsize hby hzs (by omega) v n xs hown ad 0 c (flat []) rfl (by simp [flat]) h1 h63 hbytes hbase
      exact ⟨v', w', hrun, h2, h3, h5⟩
  · obtain ⟨b, o, rfl, hb, hc⟩ := hr.2 h0
    obtain ⟨v', w', hrun, h2, h3, _, h5⟩ := run_append_own_at (P := P) w base t ty e i z 2 bytes ht hi hz hsize hby hzs (by omega) v n xs hown ⟨b, o, none⟩ m c (flat news) (by rw [flat_len, hr.1])
      (fun j u hu => by
        have hj : j < (flat news).length := (List.getElem?_eq_some_iff.1 hu).1
        have hi : j / 2 < news.length := by rw [flat_len] at hj; omega
        have hg := List.getElem?_eq_getElem hi
        obtain ⟨f1, f2⟩ := flat_at news (j / 2) _ hg
        obtain ⟨c1, c2⟩ := hc (j / 2) _ hg
        have hcell : w.cell? ⟨b, o + j, none⟩ = some u := by
          rcases (show j = j / 2 * 2 ∨ j = j / 2 * 2 + 1 by omega) with e | e
          · rw [← e, hu] at f1; rw [Nat.add_comm o, Nat.add_comm] at c1; rw [← e] at c1; rw [c1, ← f1]
          · rw [← e, hu] at f2; rw [Nat.add_assoc, ← e] at c2; rw [c2, ← f2]
        unfold Addr.add
        split
        · have h0 : j = 0 := by assumption
          subst h0; simpa using hcell
        · simpa using hcell) h1 h63 hbytes hbase
    exact ⟨v', w', hrun, h2, h3, h5⟩
theorem wpList_append_sl2 {ops : Array Oper} {rest : List Oper} {o : Oper} {a : Act} {Q : Exit → Act → World → Prop} (hgd : o.guard = none) (s x : Operand) (t : TypeId)
    (ho : o.op = .call { callee := .builtin .append, args := #[s, x], argTypes := #[t, t] })
    (base : Nat) (e : TypeId) (i : TypeInfo) (z : Value) (bytes : Nat) (ht : P.underlying t = some (.slice e)) (hi : P.info? e = some i) (hz : i.zero = some z)
    (hsize : i.size = 2) (hby : i.bytes = bytes) (hzs : z.cells.size = 2)
    (v : Value) (n : Nat) (xs : List Value) (hs : a.eval s = v) (hown : w.ownsRow base e 2 v n xs)
    (B : Nat) (A : Option Addr) (m c : Nat) (news : List (Int × Int)) (hx : a.eval x = .slice A m c) (hr : Sl2 w B A m news)
    (h63 : n + m ≤ maxLen) (hbytes : (n + m) * bytes ≤ 140737488355328) (hbase : base ≤ w.heap.size)
    (h : ∀ v' w', w'.ownsRow base e 2 v' (n + m) (xs ++ flat news) → w.grownBy w' v.ownBlock → (v'.ownBlock = v.ownBlock ∨ v'.ownBlock = some w.heap.size) → wpList P ops Q rest (a.put o.dst v') w') : wpList P ops Q (o :: rest) a w := by
  refine wpList_plain hgd fun K hK => ?_
  obtain ⟨v', w', hrun, h2, h3, h4⟩ := run_append_sl2 (P := P) w base t o.type e i z bytes ht hi hz hsize hby hzs v n xs hown B A m c news hr h63 hbytes hbase
  unfold Oper.wp execOp
  simp only [ho, resolve, invoke, builtin, Sem.run_bind, Sem.run_pure, Result.andThen_ok, List.map_toArray, List.map_cons, List.map_nil, hs, hx, hrun]
  exact hK _ _ (h v' w' h2 h3 h4)
end
/-- one new item, as append of one element lays it -/
theorem Sl2.one (w : World) (p : (Int × Int)) (t : TypeId) : Sl2 (w.alloc (.cells #[.int .i64 p.1, .int .i64 p.2] t)) (w.heap.size + 1) (some ⟨w.heap.size, 0, none⟩) 1 [p] :=
  ⟨rfl, fun _ => ⟨w.heap.size, 0, rfl, by omega, fun i u hu => by
    match i, hu with
    | 0, hu =>
      simp at hu; subst hu
      exact ⟨(Blk.new w t _).cell 0, (Blk.new w t _).cell 1⟩⟩⟩
theorem info33 : (Try.prog.info? 33).map (fun i => (i.zero, i.size, i.bytes)) = some (some (.agg #[.int .i64 0, .int .i64 0]), 2, 16) := by kernel_rfl
theorem own_far {w : World} {base e k n : Nat} {v : Value} {xs : List Value} (h : w.ownsRow base e k v n xs) {p : Addr} (hp : ∀ g, v.ownBlock = some g → g ≠ p.block) (u : Value) : (w.setCell p u).ownsRow base e k v n xs := by
  refine ⟨h.1, ?_⟩
  rcases h.2 with hn | ⟨g, cap, cur, hv, hbg, hgg, rest⟩
  · exact .inl hn
  · exact .inr ⟨g, cap, cur, hv, hbg, (Below.heap_setCell w p u g (hp g (by rw [hv]; rfl))).trans hgg, rest⟩
theorem own_empty_at {w : World} {g : Nat} (hg : w.heap.size = g) (e : TypeId) : (w.alloc (.cells #[] e)).ownsRow g e 2 (.slice (some ⟨g, 0, none⟩) 0 0) 0 [] := by
  subst hg; exact ownEmpty2 w e
theorem Blk.new_at {w : World} {g : Nat} (hg : w.heap.size = g) (t : TypeId) (cs : Array Value) : Blk (w.alloc (.cells cs t)) g t cs := by
  subst hg; exact Blk.new w t cs
/-- the cells of a buffer's own box -/
theorem Blk.four {w : World} {g : Nat} {t : TypeId} {a b c d : Value} (h : Blk w g t #[a, b, c, d]) : w.cell? ⟨g, 0, none⟩ = some a ∧ w.cell? ⟨g, 1, none⟩ = some b ∧ w.cell? ⟨g, 2, none⟩ = some c ∧ w.cell? ⟨g, 3, none⟩ = some d ∧
    w.frozen? ⟨g, 0, none⟩ = false ∧ w.frozen? ⟨g, 1, none⟩ = false ∧ w.frozen? ⟨g, 2, none⟩ = false ∧ w.frozen? ⟨g, 3, none⟩ = false :=
  ⟨h.cell 0, h.cell 1, h.cell 2, h.cell 3, h.frozen 0, h.frozen 1, h.frozen 2, h.frozen 3⟩
theorem Blk.two {w : World} {g : Nat} {t : TypeId} {a b : Value} (h : Blk w g t #[a, b]) : w.cell? ⟨g, 0, none⟩ = some a ∧ w.cell? ⟨g, 1, none⟩ = some b ∧ w.frozen? ⟨g, 0, none⟩ = false ∧ w.frozen? ⟨g, 1, none⟩ = false :=
  ⟨h.cell 0, h.cell 1, h.frozen 0, h.frozen 1⟩
theorem Blk.store4 {w : World} {g : Nat} {t : TypeId} {a b c d : Value} (h : Blk w g t #[a, b, c, d]) (a' b' c' d' : Value) :
    Blk ((((w.setCell ⟨g, 0, none⟩ a').setCell ⟨g, 1, none⟩ b').setCell ⟨g, 2, none⟩ c').setCell ⟨g, 3, none⟩ d') g t #[a', b', c', d'] := by
  have := (((h.set_ 0 a').set_ 1 b').set_ 2 c').set_ 3 d'
  simpa using this
theorem Blk.store2 {w : World} {g : Nat} {t : TypeId} {a b : Value} (h : Blk w g t #[a, b]) (a' b' : Value) : Blk ((w.setCell ⟨g, 0, none⟩ a').setCell ⟨g, 1, none⟩ b') g t #[a', b'] := by
  have := (h.set_ 0 a').set_ 1 b'
  simpa using this
theorem size24 : (Try.prog.info? 24).map (·.size) = some 4 := by kernel_rfl
theorem size33 : (Try.prog.info? 33).map (·.size) = some 2 := by kernel_rfl
theorem load24 {w : World} {g : Nat} {t : TypeId} {a b c d : Value} (h : Blk w g t #[a, b, c, d]) : (loadVar 24 ⟨g, 0, none⟩).run Try.prog w = .ok (.agg #[a, b, c, d]) w :=
  run_loadVar_row w g t 24 _ (0, 0) _ h Try.underlying24 rfl size24
theorem load33 {w : World} {g : Nat} {t : TypeId} {a b : Value} (h : Blk w g t #[a, b]) : (loadVar 33 ⟨g, 0, none⟩).run Try.prog w = .ok (.agg #[a, b]) w :=
  run_loadVar_row w g t 33 _ (0, 0) _ h Try.underlying33 rfl size33
theorem res1 {fn : Func} {p : Tmp} (h : fn.results = #[.cell p 24]) (tmps : Array Value) {w : World} {g : Nat} {t : TypeId} {a b c d : Value} (hp : tmps.getD p undef = .pointer (some ⟨g, 0, none⟩)) (hg : Blk w g t #[a, b, c, d]) :
    (results fn tmps).run Try.prog w = .ok (.agg #[a, b, c, d]) w := by
  have hp' : tmps[p]?.getD undef = .pointer (some ⟨g, 0, none⟩) := by simpa using hp
  simp [results, h, hp', asAddr, load24 hg]
theorem res2 {fn : Func} {p u : Tmp} (h : fn.results = #[.cell p 24, .tmp u]) (tmps : Array Value) {w : World} {g : Nat} {t : TypeId} {a b c d : Value} (hp : tmps.getD p undef = .pointer (some ⟨g, 0, none⟩)) (hg : Blk w g t #[a, b, c, d]) :
    (results fn tmps).run Try.prog w = .ok (.tuple #[.agg #[a, b, c, d], tmps.getD u undef]) w := by
  have hp' : tmps[p]?.getD undef = .pointer (some ⟨g, 0, none⟩) := by simpa using hp
  simp [results, h, hp', asAddr, load24 hg]
theorem res3 {fn : Func} {p q u : Tmp} (h : fn.results = #[.cell p 24, .cell q 33, .tmp u]) (tmps : Array Value) {w : World} {g g2 : Nat} {t t2 : TypeId} {a b c d x y : Value} (hp : tmps.getD p undef = .pointer (some ⟨g, 0, none⟩)) (hg : Blk w g t #[a, b, c, d])
    (hq : tmps.getD q undef = .pointer (some ⟨g2, 0, none⟩)) (hg2 : Blk w g2 t2 #[x, y]) :
    (results fn tmps).run Try.prog w = .ok (.tuple #[.agg #[a, b, c, d], .agg #[x, y], tmps.getD u undef]) w := by
  have hp' : tmps[p]?.getD undef = .pointer (some ⟨g, 0, none⟩) := by simpa using hp
  have hq' : tmps[q]?.getD undef = .pointer (some ⟨g2, 0, none⟩) := by simpa using hq
  simp [results, h, hp', hq', asAddr, load24 hg, load33 hg2]
theorem resI {fn : Func} {p u : Tmp} (h : fn.results = #[.cell p 33, .tmp u]) (tmps : Array Value) {w : World} {g : Nat} {t : TypeId} {a b : Value} (hp : tmps.getD p undef = .pointer (some ⟨g, 0, none⟩)) (hg : Blk w g t #[a, b]) :
    (results fn tmps).run Try.prog w = .ok (.tuple #[.agg #[a, b], tmps.getD u undef]) w := by
  have hp' : tmps[p]?.getD undef = .pointer (some ⟨g, 0, none⟩) := by simpa using hp
  simp [results, h, hp', asAddr, load33 hg]
theorem Blk.far4 {w : World} {g g' : Nat} {t : TypeId} {cs : Array Value} (h : Blk w g t cs) (hne : g ≠ g') (a b c d : Value) : Blk ((((w.setCell ⟨g', 0, none⟩ a).setCell ⟨g', 1, none⟩ b).setCell ⟨g', 2, none⟩ c).setCell ⟨g', 3, none⟩ d) g t cs :=
  (((h.far (p := ⟨g', 0, none⟩) hne a).far (p := ⟨g', 1, none⟩) hne b).far (p := ⟨g', 2, none⟩) hne c).far (p := ⟨g', 3, none⟩) hne d
theorem own_far4 {w : World} {base e k n : Nat} {v : Value} {xs : List Value} (h : w.ownsRow base e k v n xs) {g' : Nat} (hne : g' < base) (a b c d : Value) :
    ((((w.setCell ⟨g', 0, none⟩ a).setCell ⟨g', 1, none⟩ b).setCell ⟨g', 2, none⟩ c).setCell ⟨g', 3, none⟩ d).ownsRow base e k v n xs := by
  have hp : ∀ g, v.ownBlock = some g → g ≠ g' := fun g hg => by have := (h.lt g hg).1; omega
  exact own_far (p := ⟨g', 3, none⟩) (own_far (p := ⟨g', 2, none⟩) (own_far (p := ⟨g', 1, none⟩) (own_far (p := ⟨g', 0, none⟩) h hp a) hp b) hp c) hp d
theorem below_far4 {w w' : World} {B g' : Nat} (h : Below B w w') (hg : B ≤ g') (a b c d : Value) : Below B w ((((w'.setCell ⟨g', 0, none⟩ a).setCell ⟨g', 1, none⟩ b).setCell ⟨g', 2, none⟩ c).setCell ⟨g', 3, none⟩ d) :=
  (((h.setCell hg a).setCell hg b).setCell hg c).setCell hg d
theorem row_cells {w : World} {base e g n c : Nat} {l : List (Int × Int)} (h : w.ownsRow base e 2 (.slice (some ⟨g, 0, none⟩) n c) n (flat l)) {k : Nat} {p : (Int × Int)} (hp : l[k]? = some p) :
    w.cell? ⟨g, k * 2, none⟩ = some (.int .i64 p.1) ∧ w.cell? ⟨g, k * 2 + 1, none⟩ = some (.int .i64 p.2) ∧ w.frozen? ⟨g, k * 2, none⟩ = false ∧ w.frozen? ⟨g, k * 2 + 1, none⟩ = false := by
  have hl : l.length = n := by have := h.1; rw [flat_len] at this; omega
  have hk : k < l.length := (List.getElem?_eq_some_iff.1 hp).1
  obtain ⟨h1, h2⟩ := flat_at l k p hp
  exact ⟨(h.cellAt _ (by omega)).trans h1, (h.cellAt _ (by omega)).trans h2, h.frozenAt _, h.frozenAt _⟩
theorem cell_far2 {w : World} {g b : Nat} (h : b ≠ g) (i j o : Nat) (x y : Value) {v : Value} (hc : w.cell? ⟨b, o, none⟩ = some v) : ((w.setCell ⟨g, i, none⟩ x).setCell ⟨g, j, none⟩ y).cell? ⟨b, o, none⟩ = some v := by
  have e : ((w.setCell ⟨g, i, none⟩ x).setCell ⟨g, j, none⟩ y).heap[b]? = w.heap[b]? := (Below.heap_setCell _ _ _ b h).trans (Below.heap_setCell _ _ _ b h)
  rw [← hc]
  simp only [World.cell?, e]
theorem Blk.far2 {w : World} {g g' : Nat} {t : TypeId} {cs : Array Value} (h : Blk w g t cs) (hne : g ≠ g') (i j : Nat) (a b : Value) : Blk ((w.setCell ⟨g', i, none⟩ a).setCell ⟨g', j, none⟩ b) g t cs :=
  (h.far (p := ⟨g', i, none⟩) hne a).far (p := ⟨g', j, none⟩) hne b
theorem below_far2 {w w' : World} {B g' : Nat} (h : Below B w w') (hg : B ≤ g') (i j : Nat) (a b : Value) : Below B w ((w'.setCell ⟨g', i, none⟩ a).setCell ⟨g', j, none⟩ b) :=
  (h.setCell hg a).setCell hg b
end Go.Proofs.Ytjbfefkbpnickaa
