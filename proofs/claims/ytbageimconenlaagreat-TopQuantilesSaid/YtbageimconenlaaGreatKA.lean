/- Slices and rows whose elements have k cells each; append onto a slice that lies anywhere in a row of the call's own. No program in sight. -/
import Derived.Test.YtbageimconenlaaGreatWords
import Derived.Deep.DeepCutAuto
namespace Go.Proofs.YtbageimconenlaaGreat
open Go.RowKit
set_option linter.unusedVariables false
def SlK (w : World) (B : Nat) (A : Option Addr) (n k : Nat) (vs : List Value) : Prop :=
  vs.length = n * k ∧ (0 < n → ∃ b o, A = some ⟨b, o, none⟩ ∧ b < B ∧ ∀ i u, vs[i]? = some u → w.cell? ⟨b, o + i, none⟩ = some u)
section
variable {w w' : World} {B B' n k : Nat} {A : Option Addr} {vs : List Value}
theorem SlK.none_ : SlK w B A 0 k [] := ⟨by simp, fun h => absurd h (by omega)⟩
theorem SlK.keep (h : SlK w B A n k vs) (hk : ∀ b o, b < B → w'.cell? ⟨b, o, none⟩ = w.cell? ⟨b, o, none⟩) : SlK w' B A n k vs :=
  ⟨h.1, fun hn => by
    obtain ⟨b, o, e, hb, hc⟩ := h.2 hn
    exact ⟨b, o, e, hb, fun i u hu => (hk _ _ hb).trans (hc i u hu)⟩⟩
theorem SlK.more (h : SlK w B A n k vs) (hB : B ≤ B') : SlK w B' A n k vs :=
  ⟨h.1, fun hn => by
    obtain ⟨b, o, e, hb, hc⟩ := h.2 hn
    exact ⟨b, o, e, by omega, hc⟩⟩
theorem SlK.below (h : SlK w B A n k vs) (hb : Below B w w') : SlK w' B A n k vs := h.keep fun _ _ hp => below_cell hb hp
theorem SlK.drewN (h : SlK w B A n k vs) (q : Nat) : SlK (w.drewN q) B A n k vs := h
theorem SlK.drew (h : SlK w B A n k vs) : SlK w.drew B A n k vs := h
theorem SlK.alloc (h : SlK w B A n k vs) (hB : B ≤ w.heap.size) (o : Obj) : SlK (w.alloc o) B A n k vs := h.below ((Below.refl B w).alloc hB o)
theorem SlK.at_ (h : SlK w B A n k vs) {j : Nat} (hj : j < n) (hk : 0 < k) : ∃ b o, A = some ⟨b, o, none⟩ ∧ b < B ∧ ∀ i, i < k → w.cell? ⟨b, o + (j * k + i), none⟩ = vs[j * k + i]? := by
  obtain ⟨b, o, e, hb, hc⟩ := h.2 (by omega)
  refine ⟨b, o, e, hb, fun i hi => ?_⟩
  have hl : j * k + i < vs.length := by
    rw [h.1]
    have : (j + 1) * k ≤ n * k := Nat.mul_le_mul_right _ hj
    rw [Nat.add_mul] at this; omega
  rw [List.getElem?_eq_getElem hl]
  exact hc _ _ (List.getElem?_eq_getElem hl)
theorem SlK.sl {xs : List Value} (h : SlK w B A n 1 xs) : Sl w B A n xs := ⟨by rw [h.1, Nat.mul_one], h.2⟩
end
def OwnK (w : World) (base : Nat) (e : TypeId) (k : Nat) (v : Value) (n : Nat) (xs : List Value) : Prop :=
  xs.length = n * k ∧ ((v = .slice none 0 0 ∧ n = 0) ∨
   ∃ g o cap cur, v = .slice (some ⟨g, o, none⟩) n cap ∧ base ≤ g ∧ w.heap[g]? = some (.cells cur e (0, 0)) ∧ n ≤ cap ∧ cap ≤ maxLen ∧ o + cap * k ≤ cur.size ∧ (cur.toList.drop o).take (n * k) = xs)
section
variable {w w' : World} {base n k : Nat} {e : TypeId} {v : Value} {xs : List Value}
theorem heap_lt {g : Nat} {ob : Obj} (h : w.heap[g]? = some ob) : g < w.heap.size := (Array.getElem?_eq_some_iff.1 h).1
theorem OwnK.of_row (h : w.ownsRow base e k v n xs) : OwnK w base e k v n xs := by
  refine ⟨h.1, ?_⟩
  rcases h.2 with hn | ⟨g, cap, cur, hv, hb, hh, hnc, hm, hs, ht⟩
  · exact .inl hn
  · exact .inr ⟨g, 0, cap, cur, hv, hb, hh, hnc, hm, by omega, by simpa using ht⟩
theorem OwnK.nil_ (w : World) (base : Nat) (e : TypeId) (k : Nat) : OwnK w base e k (.slice none 0 0) 0 [] := ⟨by simp, .inl ⟨rfl, rfl⟩⟩
theorem OwnK.lt (h : OwnK w base e k v n xs) : ∀ q, v.ownBlock = some q → base ≤ q ∧ q < w.heap.size := by
  intro q hq
  rcases h.2 with ⟨hv, _⟩ | ⟨g, o, cap, cur, hv, hb, hh, _⟩
  · rw [hv] at hq; cases hq
  · rw [hv] at hq
    injection hq with hq
    subst hq
    exact ⟨hb, heap_lt hh⟩
theorem OwnK.form (h : OwnK w base e k v n xs) : ∃ A c, v = .slice A n c ∧ n ≤ c ∧ c ≤ maxLen := by
  rcases h.2 with ⟨hv, h0⟩ | ⟨g, o, cap, cur, hv, hb, hh, hnc, hm, _⟩
  · subst h0; exact ⟨none, 0, hv, Nat.le_refl _, Nat.zero_le _⟩
  · exact ⟨_, cap, hv, hnc, hm⟩
theorem OwnK.keep (h : OwnK w base e k v n xs) (hk : ∀ q, v.ownBlock = some q → w'.heap[q]? = w.heap[q]?) : OwnK w' base e k v n xs := by
  refine ⟨h.1, ?_⟩
  rcases h.2 with hn | ⟨g, o, cap, cur, hv, hb, hh, rest⟩
  · exact .inl hn
  · exact .inr ⟨g, o, cap, cur, hv, hb, (hk g (by rw [hv]; rfl)).trans hh, rest⟩
theorem OwnK.below (h : OwnK w base e k v n xs) (hb : Below w.heap.size w w') : OwnK w' base e k v n xs := h.keep fun q hq => hb.block q (h.lt q hq).2
theorem OwnK.alloc (h : OwnK w base e k v n xs) (o : Obj) : OwnK (w.alloc o) base e k v n xs := h.keep fun q hq => Below.heap_alloc w o q (h.lt q hq).2
theorem OwnK.drew (h : OwnK w base e k v n xs) : OwnK w.drew base e k v n xs := h
theorem OwnK.drewN (h : OwnK w base e k v n xs) (q : Nat) : OwnK (w.drewN q) base e k v n xs := h
theorem OwnK.far (h : OwnK w base e k v n xs) {p : Addr} (hp : ∀ q, v.ownBlock = some q → q ≠ p.block) (u : Value) : OwnK (w.setCell p u) base e k v n xs := h.keep fun q hq => Below.heap_setCell w p u q (hp q hq)
theorem OwnK.grown {row : Option Nat} (h : OwnK w base e k v n xs) (hg : w.grownBy w' row) (hne : ∀ q, v.ownBlock = some q → row = some q → False) : OwnK w' base e k v n xs :=
  h.keep fun q hq => hg.block q (h.lt q hq).2 (fun e => hne q hq e.symm)
theorem OwnK.mono {base' : Nat} (h : OwnK w base e k v n xs) (hb : base' ≤ base) : OwnK w base' e k v n xs := by
  refine ⟨h.1, ?_⟩
  rcases h.2 with hn | ⟨g, o, cap, cur, hv, hbg, rest⟩
  · exact .inl hn
  · exact .inr ⟨g, o, cap, cur, hv, by omega, rest⟩
theorem OwnK.cells {g o c : Nat} (h : OwnK w base e k (.slice (some ⟨g, o, none⟩) n c) n xs) : ∀ i u, xs[i]? = some u → w.cell? ⟨g, o + i, none⟩ = some u := by
  intro i u hu
  rcases h.2 with ⟨hv, _⟩ | ⟨g', o', cap, cur, hv, hb, hh, hnc, hm, hs, ht⟩
  · cases hv
  · injection hv with hA _ hc
    injection hA with hA
    injection hA with h1 h2
    subst h1 h2
    rw [cell_of_row w g (o + i) cur e (0, 0) hh]
    rw [← ht, List.getElem?_take] at hu
    split at hu
    · rw [List.getElem?_drop] at hu; simpa using hu
    · cases hu
theorem OwnK.sl {A : Option Addr} {c : Nat} (h : OwnK w base e k (.slice A n c) n xs) : SlK w w.heap.size A n k xs := by
  refine ⟨h.1, fun hn => ?_⟩
  rcases h.2 with ⟨_, h0⟩ | ⟨g, o, cap, cur, hv, hb, hh, hnc, hm, hs, ht⟩
  · omega
  · injection hv with hA _ hc
    subst hA
    subst hc
    exact ⟨g, o, rfl, heap_lt hh, h.cells⟩
theorem OwnK.made {g : Nat} (hg : w.heap.size = g) (hb : base ≤ g) {l : List Value} (hl : l.length = n * k) (hm : n ≤ maxLen) : OwnK (w.alloc (.cells l.toArray e)) base e k (.slice (some ⟨g, 0, none⟩) n n) n l := by
  subst hg
  exact ⟨hl, .inr ⟨w.heap.size, 0, n, l.toArray, rfl, hb, heap_alloc_new w _, Nat.le_refl _, hm, by simp [hl], by simp [← hl]⟩⟩
theorem OwnK.empty {g : Nat} (hg : w.heap.size = g) (hb : base ≤ g) : OwnK (w.alloc (.cells #[] e)) base e k (.slice (some ⟨g, 0, none⟩) 0 0) 0 [] := OwnK.made (l := []) hg hb (by simp) (Nat.zero_le _)
end
section
variable {P : Program} (w : World)
theorem run_append_roomK (t ty e : TypeId) (i : TypeInfo) (ht : P.underlying t = some (.slice e)) (hi : P.info? e = some i)
    (g o sLen sCap : Nat) (cur : Array Value) (hg : w.heap[g]? = some (.cells cur e (0, 0)))
    (a : Addr) (m c : Nat) (news : List Value) (hl : news.length = m * i.size) (hnews : ∀ j u, news[j]? = some u → w.cell? (a.add j) = some u) (h1 : ∀ u ∈ news, u.oneCell' = true)
    (hroom : sLen + m ≤ sCap) (hfit : o + sLen * i.size + news.length ≤ cur.size) :
    (Builtin.append_ #[t, t] ty #[.slice (some ⟨g, o, none⟩) sLen sCap, .slice (some a) m c]).run P w =
      .ok (.slice (some ⟨g, o, none⟩) (sLen + m) sCap) (w.setRow g (cur.toList.take (o + sLen * i.size) ++ news ++ cur.toList.drop (o + sLen * i.size + news.length)).toArray) := by
  have hf := run_firstCells_some (P := P) w i.size m a m c news hl hnews
  have hst := run_storeCells_at P g (o + sLen * i.size) e news 0 cur w hg (by simpa using hfit) h1
  simp only [Nat.add_zero] at hst
  have ha : (⟨g, o, none⟩ : Addr).add (sLen * i.size) = ⟨g, o + sLen * i.size, none⟩ := by unfold Addr.add; split <;> simp_all
  simp [Builtin.append_, run_underlying ht, sizeOf, typeInfo, hi, Builtin.lenOf, hroom, hf, ha, hst]
theorem run_appendK (base : Nat) (t ty e : TypeId) (i : TypeInfo) (z : Value) (size bytes : Nat) (ht : P.underlying t = some (.slice e)) (hi : P.info? e = some i) (hz : i.zero = some z)
    (hsize : i.size = size) (hby : i.bytes = bytes) (hzs : z.cells.size = size) (hsz : 0 < size)
    (v : Value) (n : Nat) (xs : List Value) (hown : OwnK w base e size v n xs)
    (B : Nat) (A : Option Addr) (m c : Nat) (news : List Value) (hr : SlK w B A m size news) (h1 : ∀ u ∈ news, u.oneCell' = true)
    (h63 : n + m ≤ maxLen) (hbytes : (n + m) * bytes ≤ 140737488355328) (hbase : base ≤ w.heap.size) :
    ∃ v' w', (Builtin.append_ #[t, t] ty #[v, .slice A m c]).run P w = .ok v' w' ∧ OwnK w' base e size v' (n + m) (xs ++ news) ∧ w.grownBy w' v.ownBlock ∧
      (v'.ownBlock = v.ownBlock ∨ v'.ownBlock = some w.heap.size) := by
  have hmax : n + m ≤ 9223372036854775807 := by simp only [maxLen] at h63; omega
  rcases Nat.eq_zero_or_pos m with h0 | h0
  · subst h0
    have hn : news = [] := List.eq_nil_of_length_eq_zero (by have := hr.1; simpa using this)
    subst hn
    refine ⟨v, w, ?_, by simpa using hown, World.grownBy.refl w _, .inl rfl⟩
    rcases hown.2 with ⟨rfl, rfl⟩ | ⟨g, o, cap, cur, rfl, _, _, hnc, _⟩
    · rcases A with _ | ad <;> simp [Builtin.append_, run_underlying ht, sizeOf, typeInfo, hi, Builtin.lenOf, Builtin.firstCells, loadCells, loadCellsFrom]
    · rcases A with _ | ad <;> simp [Builtin.append_, run_underlying ht, sizeOf, typeInfo, hi, Builtin.lenOf, Builtin.firstCells, hnc, storeCells, loadCells, loadCellsFrom]
  · obtain ⟨b, ob, rfl, hb, hc⟩ := hr.2 h0
    have hnews : ∀ j u, news[j]? = some u → w.cell? ((⟨b, ob, none⟩ : Addr).add j) = some u := fun j u hu => by
      have := hc j u hu
      unfold Addr.add
      split
      · have h0 : j = 0 := by assumption
        subst h0; simpa using this
      · simpa using this
    rcases hown.2 with ⟨rfl, rfl⟩ | ⟨g, o, cap, cur, rfl, hbg, hg, hnc, hcm, hcs, htake⟩
    · have hx : xs = [] := List.eq_nil_of_length_eq_zero (by simpa using hown.1)
      subst hx
      obtain ⟨v', w', hrun, h2, h3, _, h5⟩ := run_append_own_at (P := P) w base t ty e i z size bytes ht hi hz hsize hby hzs hsz (.slice none 0 0) 0 [] (World.ownsRow_nil w base e size) ⟨b, ob, none⟩ m c news hr.1 hnews h1 h63 hbytes hbase
      exact ⟨v', w', hrun, OwnK.of_row h2, h3, h5⟩
    · subst hsize
      by_cases hroom : n + m ≤ cap
      · have hle : (n + m) * i.size ≤ cap * i.size := Nat.mul_le_mul_right _ hroom
        have hadd : (n + m) * i.size = n * i.size + m * i.size := Nat.add_mul ..
        have hfit : o + n * i.size + news.length ≤ cur.size := by rw [hr.1]; omega
        have hrun := run_append_roomK (P := P) w t ty e i ht hi g o n cap cur hg ⟨b, ob, none⟩ m c news hr.1 hnews h1 hroom hfit
        refine ⟨_, _, hrun, ⟨by rw [List.length_append, hown.1, hr.1, hadd], .inr ⟨g, o, cap, _, rfl, hbg, setRow_heap w g cur _ e _ hg, hroom, hcm, ?_, ?_⟩⟩, ⟨rfl, rfl, rfl, by simp, fun q _ hq => setRow_other w g q _ (fun e => hq (by simp [Value.ownBlock, e]))⟩, .inl rfl⟩
        · simp only [List.size_toArray, List.length_append, List.length_take, List.length_drop, Array.length_toList]
          omega
        · have hlen : (cur.toList.take (o + n * i.size)).length = o + n * i.size := by simp; omega
          rw [List.append_assoc, List.drop_append_of_le_length (by rw [hlen]; omega), List.drop_take, show o + n * i.size - o = n * i.size by omega, htake]
          rw [← List.append_assoc, List.take_append_of_le_length (by rw [List.length_append, hown.1, hr.1, hadd]; omega)]
          exact List.take_of_length_le (by rw [List.length_append, hown.1, hr.1, hadd]; omega)
      · have hco := hown.cells
        have holds : ∀ j u, xs[j]? = some u → w.cell? ((⟨g, o, none⟩ : Addr).add j) = some u := fun j u hu => by
          have := hco j u hu
          unfold Addr.add
          split
          · have h0 : j = 0 := by assumption
            subst h0; simpa using this
          · simpa using this
        have hrun := run_append_grow (P := P) w t ty e i z ht hi hz ⟨g, o, none⟩ n cap xs hown.1 holds ⟨b, ob, none⟩ m c news hr.1 hnews (by omega) (by omega) (growslice_fits (by omega) (by rw [hby]; exact hbytes))
        have hge := grownCap_ge w (n + m) cap e
        have hcm2 : grownCap w (n + m) cap e ≤ maxLen := grownCap_le_maxLen w (n + m) cap e h63
        have hlen : (xs ++ news).length = (n + m) * i.size := by rw [List.length_append, hown.1, hr.1, Nat.add_mul]
        refine ⟨_, _, hrun, OwnK.of_row ⟨hlen, .inr ⟨w.heap.size, _, _, rfl, hbase, heap_alloc_new w.drew _, hge, hcm2, ?_, ?_⟩⟩, ⟨rfl, rfl, rfl, by simp, fun q hq _ => heap_alloc_old w.drew _ hq⟩, .inr rfl⟩
        · simp only [Array.size_append, List.size_toArray, size_zeroCells, hzs, hown.1, hr.1, ← Nat.add_mul]
          congr 1
          omega
        · simp only [Array.toList_append, List.append_assoc]
          rw [← List.append_assoc, ← hlen]
          exact List.take_left
theorem wpList_appendK {ops : Array Oper} {rest : List Oper} {o : Oper} {a : Act} {Q : Exit → Act → World → Prop} (hgd : o.guard = none) (s x : Operand) (t : TypeId)
    (ho : o.op = .call { callee := .builtin .append, args := #[s, x], argTypes := #[t, t] })
    (base : Nat) (e : TypeId) (i : TypeInfo) (z : Value) (size bytes : Nat) (ht : P.underlying t = some (.slice e)) (hi : P.info? e = some i) (hz : i.zero = some z)
    (hsize : i.size = size) (hby : i.bytes = bytes) (hzs : z.cells.size = size) (hsz : 0 < size)
    (v : Value) (n : Nat) (xs : List Value) (hs : a.eval s = v) (hown : OwnK w base e size v n xs)
    (B : Nat) (A : Option Addr) (m c : Nat) (news : List Value) (hx : a.eval x = .slice A m c) (hr : SlK w B A m size news) (h1 : ∀ u ∈ news, u.oneCell' = true)
    (q : Nat) (hq : n + m = q) (h63 : q ≤ maxLen) (hbytes : q * bytes ≤ 140737488355328) (hbase : base ≤ w.heap.size)
    (h : ∀ A' c' w', OwnK w' base e size (.slice A' q c') q (xs ++ news) → w.grownBy w' v.ownBlock → wpList P ops Q rest (a.put o.dst (.slice A' q c')) w') : wpList P ops Q (o :: rest) a w := by
  subst hq
  refine wpList_plain hgd fun K hK => ?_
  obtain ⟨v', w', hrun, h2, h3, h4⟩ := run_appendK (P := P) w base t o.type e i z size bytes ht hi hz hsize hby hzs hsz v n xs hown B A m c news hr h1 h63 hbytes hbase
  obtain ⟨A', c', rfl, _, _⟩ := h2.form
  unfold Oper.wp execOp
  simp only [ho, resolve, invoke, builtin, Sem.run_bind, Sem.run_pure, Result.andThen_ok, List.map_toArray, List.map_cons, List.map_nil, hs, hx, hrun]
  exact hK _ _ (h A' c' w' h2 h3)
end
theorem SlK.one {w : World} {g k : Nat} {t : TypeId} {l : List Value} (hg : w.heap.size = g) (hl : l.length = k) : SlK (w.alloc (.cells l.toArray t)) (w.alloc (.cells l.toArray t)).heap.size (some ⟨g, 0, none⟩) 1 k l := by
  subst hg
  exact ⟨by rw [hl, Nat.one_mul], fun _ => ⟨w.heap.size, 0, rfl, by simp, fun i u hu => by
    rw [Nat.zero_add, (Blk.new w t l.toArray).cell i]; simpa using hu⟩⟩
end Go.Proofs.YtbageimconenlaaGreat
