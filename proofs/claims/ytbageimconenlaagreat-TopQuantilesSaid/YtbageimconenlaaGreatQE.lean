/- Lists of blocks: each block has a slice of its own; how they pass between functions. | Sorted lists of values: merged, ranks. No program in sight. -/
import Derived.Test.YtbageimconenlaaGreatES
namespace Go.Proofs.YtbageimconenlaaGreat
open Go.RowKit En
set_option linter.unusedVariables false
structure Eb where
  t : Int
  last : Int
  lv : Nat
  vs : List Int
structure Bk where
  e : Eb
  A : Option Addr
  c : Nat
def enL : Nat → List Int → List Value
  | _, [] => []
  | k, v :: l => .int .i64 v :: .int .i64 ((k + 1 : Nat)) :: .int .i64 ((k + 1 : Nat)) :: enL (k + 1) l
theorem enL_len : ∀ (l : List Int) (k : Nat), (enL k l).length = l.length * 3
  | [], k => rfl
  | v :: l, k => by rw [enL, List.length_cons, List.length_cons, List.length_cons, enL_len l (k + 1), List.length_cons]; omega
theorem enL_app : ∀ (l r : List Int) (k : Nat), enL k (l ++ r) = enL k l ++ enL (k + l.length) r
  | [], r, k => rfl
  | v :: l, r, k => by rw [List.cons_append, enL, enL, enL_app l r (k + 1), List.length_cons, show k + 1 + l.length = k + (l.length + 1) by omega]; rfl
def enC (v : Int) (j : Nat) : List Value := [.int .i64 v, .int .i64 ((j + 1 : Nat)), .int .i64 ((j + 1 : Nat))]
theorem enL_at : ∀ (l : List Int) (k j i : Nat) (v : Int), l[j]? = some v → i < 3 → (enL k l)[j * 3 + i]? = (enC v (k + j))[i]?
  | [], k, j, i, v, h, _ => by simp at h
  | x :: l, k, 0, i, v, h, hi => by
    simp at h; subst h
    rw [Nat.zero_mul, Nat.zero_add]
    match i, hi with
    | 0, _ => rfl
    | 1, _ => rfl
    | 2, _ => rfl
  | x :: l, k, j + 1, i, v, h, hi => by
    simp at h
    have := enL_at l (k + 1) j i v h hi
    rw [show (j + 1) * 3 + i = (j * 3 + i) + 3 by omega, show k + (j + 1) = k + 1 + j by omega, ← this]
    rfl
theorem allFC_en : ∀ (l : List Int) (k : Nat), allFC (enL k l) = true
  | [], k => rfl
  | v :: l, k => allFC_en l (k + 1)
theorem nonE_env {l : List Int} (k j : Nat) (h : 0 < l.length) : nonE (.view k (enL j l)) = true := by
  cases l with
  | nil => simp at h
  | cons x l => rfl
theorem mv_en (f : Nat → Nat) : ∀ (l : List Int) (k : Nat), (enL k l).map (mvC f) = enL k l
  | [], k => rfl
  | v :: l, k => by rw [enL, List.map_cons, List.map_cons, List.map_cons, mv_en f l (k + 1)]; rfl
theorem mv_env (f : Nat → Nat) (k j : Nat) (l : List Int) : mvB f (.view k (enL j l)) = .view k (enL j l) := by
  show Box.view k _ = _; rw [mv_en]
theorem mv_enr (f : Nat → Nat) (e k j : Nat) (l : List Int) : mvB f (.vec e k (enL j l)) = .vec e k (enL j l) := by
  show Box.vec e k _ = _; rw [mv_en]
theorem allNC_en (al : List Nat) : ∀ (l : List Int) (k : Nat), allNC al (enL k l) = true
  | [], k => rfl
  | v :: l, k => allNC_en al l (k + 1)
def bkR (b : Bk) : List Value := [.int .i64 b.e.t, .int .i64 b.e.last, .int .i64 (b.e.lv : Nat), .int .i64 (b.e.vs.length : Nat), .slice b.A b.e.vs.length b.c]
def bkQ (b : Bk) : List Value := [.int .i64 b.e.t, .int .i64 b.e.last, .int .i64 (b.e.lv : Nat), .int .i64 (b.e.vs.length : Nat), .iface 0 (.slice b.A b.e.vs.length b.c)]
def bkRL : List Bk → List Value
  | [] => []
  | b :: l => bkR b ++ bkRL l
def bkQL : List Bk → List Value
  | [] => []
  | b :: l => bkQ b ++ bkQL l
theorem bkQL_len : ∀ l : List Bk, (bkQL l).length = l.length * 5
  | [] => rfl
  | b :: l => by rw [bkQL, List.length_append, bkQL_len l]; simp [bkQ]; omega
theorem bkRL_len : ∀ l : List Bk, (bkRL l).length = l.length * 5
  | [] => rfl
  | b :: l => by rw [bkRL, List.length_append, bkRL_len l]; simp [bkR]; omega
theorem bkQL_app : ∀ l r : List Bk, bkQL (l ++ r) = bkQL l ++ bkQL r
  | [], r => rfl
  | m :: l, r => by rw [List.cons_append, bkQL, bkQL, bkQL_app l r, List.append_assoc]
theorem bkQL_at : ∀ (l : List Bk) (j i : Nat) (m : Bk), l[j]? = some m → i < 5 → (bkQL l)[j * 5 + i]? = (bkQ m)[i]?
  | [], j, i, m, h, _ => by simp at h
  | x :: l, 0, i, m, h, hi => by
    simp at h; subst h
    rw [bkQL, Nat.zero_mul, Nat.zero_add, List.getElem?_append_left (by simp [bkQ]; omega)]
  | x :: l, j + 1, i, m, h, hi => by
    simp at h
    rw [bkQL, List.getElem?_append_right (by simp [bkQ]; omega)]
    rw [show (j + 1) * 5 + i - (bkQ x).length = j * 5 + i by simp [bkQ]; omega]
    exact bkQL_at l j i m h hi
theorem rL_bkQ (ρ : Nat → Pl) : ∀ l : List Bk, rL ρ (bkQL l) = bkRL l
  | [] => rfl
  | b :: l => by
    have := rL_bkQ ρ l
    unfold rL at this ⊢
    rw [bkQL, List.map_append, this]; rfl
theorem nb_bkQ (al : List Nat) : ∀ l : List Bk, allNC al (bkQL l) = true
  | [] => rfl
  | b :: l => nb_bkQ al l
theorem nonE_bkv {l : List Bk} (k : Nat) (h : 0 < l.length) : nonE (.view k (bkQL l)) = true := by
  cases l with
  | nil => simp at h
  | cons x l => rfl
theorem nonE_bkr {l : List Bk} (e k : Nat) (h : 0 < l.length) : nonE (.vec e k (bkQL l)) = true := by
  cases l with
  | nil => simp at h
  | cons x l => rfl
theorem mv_bk (f : Nat → Nat) : ∀ l : List Bk, (bkQL l).map (mvC f) = bkQL l
  | [] => rfl
  | b :: l => by rw [bkQL, List.map_append, mv_bk f l]; rfl
theorem mv_bkv (f : Nat → Nat) (k : Nat) (l : List Bk) : mvB f (.view k (bkQL l)) = .view k (bkQL l) := by
  show Box.view k _ = _; rw [mv_bk]
theorem mv_bkr (f : Nat → Nat) (e k : Nat) (l : List Bk) : mvB f (.vec e k (bkQL l)) = .vec e k (bkQL l) := by
  show Box.vec e k _ = _; rw [mv_bk]
structure BL (w : World) (A : Option Addr) (n c : Nat) (l : List Bk) : Prop where
  sl : SL w A n c 5 (bkRL l)
  es : ∀ b ∈ l, SL w b.A b.e.vs.length b.c 3 (enL 0 b.e.vs)
def blkOf (A : Option Addr) (n g : Nat) : Prop := 0 < n ∧ ∃ o, A = some ⟨g, o, none⟩
def fpE (l : List Bk) (g : Nat) : Prop := ∃ b ∈ l, blkOf b.A b.e.vs.length g
def fpL (A : Option Addr) (n : Nat) (l : List Bk) (g : Nat) : Prop := blkOf A n g ∨ fpE l g
theorem En.SL.blk_lt {w : World} {A : Option Addr} {n c k g : Nat} {cells : List Value} (h : SL w A n c k cells) (hg : blkOf A n g) : g < w.heap.size := by
  obtain ⟨hn, o, rfl⟩ := hg
  obtain ⟨b, o', e, hb, _⟩ := h.sl.2 hn
  injection e with e; injection e with e _ _; subst e; exact hb
theorem En.SL.frame {w w' : World} {A : Option Addr} {n c k : Nat} {cells : List Value} (h : SL w A n c k cells) (hs : w.heap.size ≤ w'.heap.size) (hk : ∀ g, blkOf A n g → w'.heap[g]? = w.heap[g]?) : SL w' A n c k cells := by
  refine ⟨⟨h.sl.1, fun hn => ?_⟩, h.le, h.mx⟩
  obtain ⟨b, o, e, hb, hc⟩ := h.sl.2 hn
  exact ⟨b, o, e, Nat.lt_of_lt_of_le hb hs, fun i u hu => (heap_cell (hk b ⟨hn, o, e⟩)).trans (hc i u hu)⟩
theorem BL.blk_lt {w : World} {A : Option Addr} {n c g : Nat} {l : List Bk} (h : BL w A n c l) (hg : fpL A n l g) : g < w.heap.size := by
  rcases hg with hg | ⟨b, hb, hg⟩
  · exact h.sl.blk_lt hg
  · exact (h.es b hb).blk_lt hg
theorem BL.frame {w w' : World} {A : Option Addr} {n c : Nat} {l : List Bk} (h : BL w A n c l) (hs : w.heap.size ≤ w'.heap.size) (hk : ∀ g, fpL A n l g → w'.heap[g]? = w.heap[g]?) : BL w' A n c l :=
  ⟨h.sl.frame hs fun g hg => hk g (.inl hg), fun b hb => (h.es b hb).frame hs fun g hg => hk g (.inr ⟨b, hb, hg⟩)⟩
theorem BL.len {w : World} {A : Option Addr} {n c : Nat} {l : List Bk} (h : BL w A n c l) : l.length = n := by
  have := h.sl.sl.1
  rw [bkRL_len] at this; omega
theorem BL.nil (w : World) : BL w none 0 0 [] := ⟨⟨⟨rfl, fun h => absurd h (Nat.lt_irrefl _)⟩, Nat.le_refl _, Nat.zero_le _⟩, fun b hb => absurd hb List.not_mem_nil⟩
def entF (l : List Bk) (p : Pl) (w : World) : Prop := ∀ b ∈ l, SL w b.A b.e.vs.length b.c 3 (enL 0 b.e.vs) ∧ ∀ g, blkOf b.A b.e.vs.length g → p.fp g
def plAd (p : Pl) : Option Addr := bif p.nil then p.alt else some ⟨p.b, p.o, none⟩
def blF (es : List Eb) (p : Pl) (w : World) : Prop := ∃ l : List Bk, l.map Bk.e = es ∧ BL w (plAd p) es.length p.cap l ∧ ∀ g, fpL (plAd p) es.length l g → p.fp g
def plD (A : Option Addr) (c : Nat) (n : Nat) (l : List Bk) : Pl := { plOf A c with fp := fpL A n l }
def plE (l : List Bk) : Pl := ⟨0, 0, 0, true, fpE l, none⟩
theorem plAd_plD (A : Option Addr) (c n : Nat) (l : List Bk) : plAd (plD A c n l) = A := by
  unfold plAd plD plOf
  split <;> rfl
theorem plD_cap (A : Option Addr) (c n : Nat) (l : List Bk) : (plD A c n l).cap = c := plOf_cap A c
theorem plD_slice {ρ : (Nat → Pl)} {A : Option Addr} {c i n m : Nat} {l : List Bk} (hρ : ρ i = plD A c m l) : rC ρ (.slice (some ⟨i, 0, none⟩) n 0) = .slice A n c := by
  show Value.slice (bif (ρ i).nil then (ρ i).alt else some (rA ρ ⟨i, 0, none⟩)) n (ρ i).cap = _
  rw [hρ, plD_cap]
  have h := plAd_plD A c m l
  unfold plAd at h
  have e : rA ρ ⟨i, 0, none⟩ = ⟨(plD A c m l).b, (plD A c m l).o, none⟩ := by unfold rA; simp only [hρ, Nat.add_zero]
  rw [e, h]
theorem plAd_slice (ρ : (Nat → Pl)) (i n : Nat) : rC ρ (.slice (some ⟨i, 0, none⟩) n 0) = .slice (plAd (ρ i)) n (ρ i).cap := by
  show Value.slice (bif (ρ i).nil then (ρ i).alt else some (rA ρ ⟨i, 0, none⟩)) n (ρ i).cap = _
  unfold plAd
  cases (ρ i).nil <;> rfl
theorem box_blF {B : Nat} {ρ : Nat → Pl} {w : World} {i : Nat} {A : Option Addr} {n c : Nat} {l : List Bk} {es : List Eb} (h : BL w A n c l) (he : l.map Bk.e = es) (hn : es.length = n) (hρ : ρ i = plD A c n l) : BoxOK B ρ w i (.deep (blF es)) := by
  unfold BoxOK
  rw [hρ]
  refine ⟨fun g hg => h.blk_lt hg, fun w' hs hk => ⟨l, he, ?_, ?_⟩⟩
  · rw [plAd_plD, plD_cap, hn]
    exact h.frame hs hk
  · intro g hg
    rw [plAd_plD, hn] at hg
    exact hg
theorem box_entF {B : Nat} {ρ : Nat → Pl} {w : World} {i : Nat} {l : List Bk} (h : ∀ b ∈ l, SL w b.A b.e.vs.length b.c 3 (enL 0 b.e.vs)) (hρ : ρ i = plE l) : BoxOK B ρ w i (.deep (entF l)) := by
  unfold BoxOK
  rw [hρ]
  refine ⟨fun g ⟨b, hb, hg⟩ => (h b hb).blk_lt hg, fun w' hs hk b hb => ⟨(h b hb).frame hs fun g hg => hk g ⟨b, hb, hg⟩, fun g hg => ⟨b, hb, hg⟩⟩⟩
theorem box_bkv {B : Nat} {ρ : Nat → Pl} {w : World} {i : Nat} {A : Option Addr} {n c : Nat} {l : List Bk} (h : SL w A n c 5 (bkRL l)) (hρ : ρ i = plOf A c) : BoxOK B ρ w i (.view 5 (bkQL l)) := by
  have hcap : (ρ i).cap = c := by rw [hρ, plOf_cap]
  have hlen : (bkQL l).length = n * 5 := by rw [bkQL_len, ← bkRL_len]; exact h.sl.1
  refine ⟨by rw [hcap]; exact h.mx, by rw [hcap, hlen]; exact Nat.mul_le_mul_right _ h.le, fun j v hv => ?_⟩
  have hjl : j < n * 5 := by rw [← hlen]; exact (List.getElem?_eq_some_iff.1 hv).1
  obtain ⟨b, o, rfl, hb, hc⟩ := h.sl.2 (by omega)
  rw [hρ]
  refine ⟨rfl, hb, ?_⟩
  have := rL_bkQ ρ l
  refine hc j (rC ρ v) ?_
  rw [← this]; unfold rL; rw [List.getElem?_map, hv]; rfl
theorem bkv_SL {B : Nat} {ρ : Nat → Pl} {w : World} {i n : Nat} {b : Box} {l : List Bk} (h : BoxOK B ρ w i b) (hb : b.cells = bkQL l) (hk : kBox 5 b = true) (hl : l.length = n) : ∃ A c, rC ρ (.slice (some ⟨i, 0, none⟩) n 0) = .slice A n c ∧ SL w A n c 5 (bkRL l) := by
  refine ⟨plAd (ρ i), (ρ i).cap, plAd_slice ρ i n, ⟨?_, ?_⟩, ?_, ?_⟩
  · rw [bkRL_len, hl]
  · intro hn
    have hc : ∀ j v, (bkQL l)[j]? = some v → (ρ i).nil = false ∧ w.cell? ⟨(ρ i).b, (ρ i).o + j, none⟩ = some (rC ρ v) := fun j v hv => by
      rw [← hb] at hv
      exact h.cell hv
    have h0 : 0 < (bkQL l).length := by rw [bkQL_len]; omega
    have hz := hc 0 (bkQL l)[0] (by simp [h0])
    refine ⟨(ρ i).b, (ρ i).o, by unfold plAd; rw [hz.1]; rfl, cell_lt hz.2, fun j u hu => ?_⟩
    rw [← rL_bkQ ρ l] at hu
    unfold rL at hu
    rw [List.getElem?_map] at hu
    cases hv : (bkQL l)[j]? with
    | none => rw [hv] at hu; cases hu
    | some v => rw [hv] at hu; cases hu; exact (hc j v hv).2
  · have hcl : n * 5 ≤ b.cells.length := by rw [hb, bkQL_len, hl]; exact Nat.le_refl _
    cases b with
    | view k C =>
      have e : k = 5 := Nat.eq_of_beq_eq_true hk
      subst e
      have := h.2.1
      have hcl : n * 5 ≤ C.length := hcl
      omega
    | vec e k C =>
      have e' : k = 5 := Nat.eq_of_beq_eq_true hk
      subst e'
      have hcl : n * 5 ≤ C.length := hcl
      rcases h.2 with ⟨_, _, h3⟩ | ⟨_, _, cur, _, _, h5, _⟩
      · rw [h3] at hcl; simp at hcl; omega
      · omega
    | row t C => cases hk
    | gone => cases hk
    | deep F => cases hk
  · cases b with
    | view k C => exact h.1
    | vec e k C => exact h.1
    | row t C => cases hk
    | gone => cases hk
    | deep F => cases hk
namespace En
section
variable {P : Program}
theorem fun_db {tb : (List (Nat × TI))} (hT : TbOK P tb) {f : FuncId} {fn : Func} {c : Code} (hm : P.follows .mixedOrders = true) (hf : P.funcs[f]? = some fn) (hb : fn.body = some c) (G : Value → List Value) (es : List Eb) {A : Option Addr} {n cp : Nat} {w : World} {l : List Bk} (h : BL w A n cp l) (he : l.map Bk.e = es) (hn : es.length = n)
    (vs : List Value) (hvs : G (.slice (some ⟨0, 0, none⟩) n 0) = vs) (hG : ∀ ρ, (G (.slice (some ⟨0, 0, none⟩) n 0)).map (rV ρ) = G (rC ρ (.slice (some ⟨0, 0, none⟩) n 0)))
    (nt : Nat) (tm : List (Nat × Value)) (htm : tmOf vs 0 = tm) (hnt : vs.length + (fn.ntmps - vs.length) = nt) (hd : dcode nt c = true) (hnb : allN1 [0] vs = true) (htu : noTup vs = true)
    (T : Value → St → Prop) (hac : AC P tb 1 c ⟨tm, [(0, .deep (blF es))], [0], nt⟩ (FQ tb fn.results.toList T)) :
    Calls P f (G (.slice A n cp)).toArray w (fun e w' => ∃ v s ρ a, T v s ∧ e = .returned (rV ρ v) ∧ Sat ⟨w.heap.size, w, fun _ => plD A cp n l, 1⟩ ρ s a w') := by
  have := fun_fin hT (I := 1) hm hf hb vs [(0, .deep (blF es))] (fun _ => plD A cp n l) w nt tm htm hnt hd [0] rfl hnb htu (fun m b hmb => by
    rw [lk_cons] at hmb
    split at hmb
    · rename_i e
      subst e
      cases hmb
      exact ⟨by omega, box_blF h he hn rfl, fun v hv => absurd hv List.not_mem_nil, fun hw => hw⟩
    · cases hmb) T hac
  rw [← hvs, hG, plD_slice (ρ := fun _ => plD A cp n l) (A := A) (c := cp) rfl] at this
  exact this
theorem fun_bl {tb : (List (Nat × TI))} (hT : TbOK P tb) {f : FuncId} {fn : Func} {c : Code} (hm : P.follows .mixedOrders = true) (hf : P.funcs[f]? = some fn) (hb : fn.body = some c) (G : Value → List Value) {A : Option Addr} {n cp : Nat} {w : World} {l : List Bk} (h : BL w A n cp l)
    (vs : List Value) (hvs : G (.slice (some ⟨0, 0, none⟩) n 0) = vs) (hG : ∀ ρ, (G (.slice (some ⟨0, 0, none⟩) n 0)).map (rV ρ) = G (rC ρ (.slice (some ⟨0, 0, none⟩) n 0)))
    (nt : Nat) (tm : List (Nat × Value)) (htm : tmOf vs 0 = tm) (hnt : vs.length + (fn.ntmps - vs.length) = nt) (hd : dcode nt c = true) (hnb : allN1 [1, 0] vs = true) (htu : noTup vs = true)
    (T : Value → St → Prop) (hac : AC P tb 2 c ⟨tm, [(0, .view 5 (bkQL l)), (1, .deep (entF l))], [1, 0], nt⟩ (FQ tb fn.results.toList T)) :
    Calls P f (G (.slice A n cp)).toArray w (fun e w' => ∃ v s ρ a, T v s ∧ e = .returned (rV ρ v) ∧ Sat ⟨w.heap.size, w, fun i => if i = 0 then plOf A cp else plE l, 2⟩ ρ s a w') := by
  have := fun_fin hT (I := 2) hm hf hb vs [(0, .view 5 (bkQL l)), (1, .deep (entF l))] (fun i => if i = 0 then plOf A cp else plE l) w nt tm htm hnt hd [1, 0] rfl hnb htu (fun m b hmb => by
    rw [lk_cons] at hmb
    split at hmb
    · rename_i e
      subst e
      cases hmb
      exact ⟨by omega, box_bkv h.sl rfl, fun v hv => allNC_spec (nb_bkQ _ l) v hv, fun hw => hw⟩
    · rw [lk_cons] at hmb
      split at hmb
      · rename_i e
        subst e
        cases hmb
        exact ⟨by omega, box_entF h.es rfl, fun v hv => absurd hv List.not_mem_nil, fun hw => hw⟩
      · cases hmb) T hac
  rw [← hvs, hG, plOf_slice (ρ := fun i => if i = 0 then plOf A cp else plE l) (A := A) (c := cp) (i := 0) rfl] at this
  exact this
theorem AOk.callDB {s : St} {o : Oper} {c : Call} {g : FuncId} (G : Value → List Value) (q n : Nat) (es : List Eb) {v : Value}
    (C : ∀ (w : World) (A : Option Addr) (c' : Nat) (l : List Bk), BL w A n c' l → l.map Bk.e = es → Calls P g (G (.slice A n c')).toArray w (fun e w' => e = .returned v ∧ Below w.heap.size w w'))
    (hent : Enters P g) (ho : o.op = .call c) (hc : c.callee = .value (.func g)) (hargs : evs s c.args.toList = some (G (.slice (some ⟨q, 0, none⟩) n 0))) (hG : ∀ ρ, (G (.slice (some ⟨q, 0, none⟩) n 0)).map (rV ρ) = G (rC ρ (.slice (some ⟨q, 0, none⟩) n 0)))
    (hb : lk s.σ q = some (.deep (blF es))) (hn : es.length = n) (hv : flatV v = true) : AOk P s o ⟨rq s c.args.toList, [(q, .deep (blF es))]⟩ ⟨v, [], []⟩ :=
  .callV (fun B ρ w hB hσ => by
    obtain ⟨l, h1, h2, _⟩ := (hσ q _ List.mem_cons_self).2 w (Nat.le_refl _) fun _ _ => rfl
    rw [hG, plAd_slice]
    rw [hn] at h2
    exact C w _ _ l h2 h1) hent ho hc hargs (fun m b' h => by simp at h; obtain ⟨rfl, rfl⟩ := h; exact hb) hv
theorem bl_of {B : Nat} {ρ : Nat → Pl} {w : World} {q e n : Nat} {b : Box} {l : List Bk} (hσ : ∀ m b', (m, b') ∈ [(q, b), (e, .deep (entF l))] → BoxOK B ρ w m b') (hbc : b.cells = bkQL l) (hbk : kBox 5 b = true) (hl : l.length = n) : ∃ A c, rC ρ (.slice (some ⟨q, 0, none⟩) n 0) = .slice A n c ∧ BL w A n c l := by
  obtain ⟨A, c', h1, h2⟩ := bkv_SL (hσ q _ List.mem_cons_self) hbc hbk hl
  have h3 := (hσ e _ (List.mem_cons_of_mem _ List.mem_cons_self)).2 w (Nat.le_refl _) fun _ _ => rfl
  exact ⟨A, c', h1, h2, fun b hb => (h3 b hb).1⟩
theorem AOk.callBL {s : St} {o : Oper} {c : Call} {g : FuncId} (G : Value → List Value) (q e n : Nat) (l : List Bk) {b : Box} {v : Value}
    (C : ∀ (w : World) (A : Option Addr) (c' : Nat), BL w A n c' l → Calls P g (G (.slice A n c')).toArray w (fun e w' => e = .returned v ∧ Below w.heap.size w w'))
    (hent : Enters P g) (ho : o.op = .call c) (hc : c.callee = .value (.func g)) (hargs : evs s c.args.toList = some (G (.slice (some ⟨q, 0, none⟩) n 0))) (hG : ∀ ρ, (G (.slice (some ⟨q, 0, none⟩) n 0)).map (rV ρ) = G (rC ρ (.slice (some ⟨q, 0, none⟩) n 0)))
    (hb : lk s.σ q = some b) (he : lk s.σ e = some (.deep (entF l))) (hbc : b.cells = bkQL l) (hbk : kBox 5 b = true) (hl : l.length = n) (hv : flatV v = true) : AOk P s o ⟨rq s c.args.toList, [(q, b), (e, .deep (entF l))]⟩ ⟨v, [], []⟩ :=
  .callV (fun B ρ w hB hσ => by
    obtain ⟨A, c', h1, h2⟩ := bl_of hσ hbc hbk hl
    rw [hG, h1]
    exact C w A c' h2) hent ho hc hargs (fun m b' h => by simp at h; rcases h with ⟨rfl, rfl⟩ | ⟨rfl, rfl⟩ <;> assumption) hv
theorem AOk.callBLO {s : St} {o : Oper} {c : Call} {g : FuncId} (G : Value → List Value) (q e n : Nat) (l : List Bk) {b : Box} (F : Value → Value) (q' n' k' : Nat) (e' : TypeId) (cells' : List Value)
    (C : ∀ (w : World) (A : Option Addr) (c' : Nat), BL w A n c' l → Calls P g (G (.slice A n c')).toArray w (fun e w' => ∃ A' c'', e = .returned (F (.slice A' n' c'')) ∧ OwnK w' w.heap.size e' k' (.slice A' n' c'') n' cells' ∧ Below w.heap.size w w'))
    (hent : Enters P g) (ho : o.op = .call c) (hc : c.callee = .value (.func g)) (hargs : evs s c.args.toList = some (G (.slice (some ⟨q, 0, none⟩) n 0))) (hG : ∀ ρ, (G (.slice (some ⟨q, 0, none⟩) n 0)).map (rV ρ) = G (rC ρ (.slice (some ⟨q, 0, none⟩) n 0)))
    (hb : lk s.σ q = some b) (he : lk s.σ e = some (.deep (entF l))) (hbc : b.cells = bkQL l) (hbk : kBox 5 b = true) (hl : l.length = n) (hq : memB q' s.al = false)
    (hF : ∀ ρ, rV ρ (F (.slice (some ⟨q', 0, none⟩) n' 0)) = F (rC ρ (.slice (some ⟨q', 0, none⟩) n' 0))) (hN : nbV [q'] (F (.slice (some ⟨q', 0, none⟩) n' 0)) = true) (hf' : allFC cells' = true) :
    AOk P s o ⟨rq s c.args.toList, [(q, b), (e, .deep (entF l))]⟩ ⟨F (.slice (some ⟨q', 0, none⟩) n' 0), [], [(q', .vec e' k' cells')]⟩ :=
  .callO F q' n' k' e' cells' (σ := [(q, b), (e, .deep (entF l))]) (fun B ρ w hB hσ => by
    obtain ⟨A, c', h1, h2⟩ := bl_of hσ hbc hbk hl
    rw [hG, h1]
    exact C w A c' h2) hent ho hc hargs (fun m b' h => by simp at h; rcases h with ⟨rfl, rfl⟩ | ⟨rfl, rfl⟩ <;> assumption) hq hF hN hf'
theorem AOk.callQ {s : St} {o : Oper} {c : Call} {g : FuncId} (G : Value → List Value) (e : Nat) (l : List Bk) (b : Bk) {v : Value}
    (C : ∀ (w : World), SL w b.A b.e.vs.length b.c 3 (enL 0 b.e.vs) → Calls P g (G (.slice b.A b.e.vs.length b.c)).toArray w (fun e w' => e = .returned v ∧ Below w.heap.size w w'))
    (hent : Enters P g) (ho : o.op = .call c) (hc : c.callee = .value (.func g)) (hargs : evs s c.args.toList = some (G (.iface 0 (.slice b.A b.e.vs.length b.c)))) (hG : ∀ ρ, (G (.iface 0 (.slice b.A b.e.vs.length b.c))).map (rV ρ) = G (.slice b.A b.e.vs.length b.c))
    (he : lk s.σ e = some (.deep (entF l))) (hbl : b ∈ l) (hv : flatV v = true) : AOk P s o ⟨rq s c.args.toList, [(e, .deep (entF l))]⟩ ⟨v, [], []⟩ :=
  .callV (fun B ρ w hB hσ => by
    have h3 := (hσ e _ List.mem_cons_self).2 w (Nat.le_refl _) fun _ _ => rfl
    rw [hG]
    exact C w (h3 b hbl).1) hent ho hc hargs (fun m b' h => by simp at h; obtain ⟨rfl, rfl⟩ := h; exact he) hv
end
end En
end Go.Proofs.YtbageimconenlaaGreat
namespace Go.Proofs.YtbageimconenlaaGreat
set_option linter.unusedVariables false
def mg : List Int → List Int → List Int
  | [], ys => ys
  | x :: xs, [] => x :: xs
  | x :: xs, y :: ys => if x ≤ y then x :: mg xs (y :: ys) else y :: mg (x :: xs) ys
  termination_by a b => a.length + b.length
theorem mg_nil (ys : List Int) : mg [] ys = ys := by rw [mg]
theorem mg_nil' (xs : List Int) : mg xs [] = xs := by cases xs <;> rw [mg]
theorem mg_cons (x y : Int) (xs ys : List Int) : mg (x :: xs) (y :: ys) = if x ≤ y then x :: mg xs (y :: ys) else y :: mg (x :: xs) ys := by rw [mg]
theorem mg_perm : ∀ (n : Nat) (xs ys : List Int), xs.length + ys.length ≤ n → (mg xs ys).Perm (xs ++ ys)
  | n, [], ys, _ => by rw [mg_nil]; exact .refl _
  | n, x :: xs, [], _ => by rw [mg_nil', List.append_nil]
  | 0, x :: xs, y :: ys, h => by simp at h
  | n + 1, x :: xs, y :: ys, h => by
    rw [mg_cons]
    split
    · exact (mg_perm n xs (y :: ys) (by simp at h ⊢; omega)).cons x
    · refine ((mg_perm n (x :: xs) ys (by simp at h ⊢; omega)).cons y).trans ?_
      exact List.perm_middle.symm
theorem mg_len (xs ys : List Int) : (mg xs ys).length = xs.length + ys.length := by
  rw [(mg_perm _ xs ys (Nat.le_refl _)).length_eq, List.length_append]
def Asc (l : List Int) : Prop := l.Pairwise (· ≤ ·)
theorem mg_asc : ∀ (n : Nat) (xs ys : List Int), xs.length + ys.length ≤ n → Asc xs → Asc ys → Asc (mg xs ys)
  | n, [], ys, _, _, h => by rw [mg_nil]; exact h
  | n, x :: xs, [], _, h, _ => by rw [mg_nil']; exact h
  | 0, x :: xs, y :: ys, h, _, _ => by simp at h
  | n + 1, x :: xs, y :: ys, h, h1, h2 => by
    obtain ⟨a1, a2⟩ := List.pairwise_cons.1 h1
    obtain ⟨b1, b2⟩ := List.pairwise_cons.1 h2
    rw [mg_cons]
    split
    · rename_i hxy
      refine List.pairwise_cons.2 ⟨fun z hz => ?_, mg_asc n xs (y :: ys) (by simp at h ⊢; omega) a2 h2⟩
      have := (mg_perm _ xs (y :: ys) (Nat.le_refl _)).mem_iff.1 hz
      rcases List.mem_append.1 this with g | g
      · exact a1 z g
      · rcases List.mem_cons.1 g with g | g
        · subst g; exact hxy
        · have := b1 z g; omega
    · rename_i hxy
      refine List.pairwise_cons.2 ⟨fun z hz => ?_, mg_asc n (x :: xs) ys (by simp at h ⊢; omega) h1 b2⟩
      have := (mg_perm _ (x :: xs) ys (Nat.le_refl _)).mem_iff.1 hz
      rcases List.mem_append.1 this with g | g
      · rcases List.mem_cons.1 g with g | g
        · subst g; omega
        · have := a1 z g; omega
      · exact b1 z g
theorem asc_at {l : List Int} (h : Asc l) {i j : Nat} {a b : Int} (ha : l[i]? = some a) (hb : l[j]? = some b) (hij : i ≤ j) : a ≤ b := by
  obtain ⟨h1, e1⟩ := List.getElem?_eq_some_iff.1 ha
  obtain ⟨h2, e2⟩ := List.getElem?_eq_some_iff.1 hb
  by_cases e : i = j
  · subst e; rw [ha] at hb; cases hb; exact Int.le_refl _
  · have := List.pairwise_iff_getElem.1 h i j h1 h2 (by omega)
    omega
def rk (v : Int) (l : List Int) : Nat := l.countP fun x => decide (x ≤ v)
def rb (v : Int) (l : List Int) : Nat := l.countP fun x => decide (x < v)
theorem rk_app (v : Int) (a b : List Int) : rk v (a ++ b) = rk v a + rk v b := List.countP_append
theorem rb_app (v : Int) (a b : List Int) : rb v (a ++ b) = rb v a + rb v b := List.countP_append
theorem rk_perm (v : Int) {a b : List Int} (h : a.Perm b) : rk v a = rk v b := h.countP_eq _
theorem rb_perm (v : Int) {a b : List Int} (h : a.Perm b) : rb v a = rb v b := h.countP_eq _
theorem rk_le (v : Int) (l : List Int) : rk v l ≤ l.length := List.countP_le_length
theorem rb_le (v : Int) (l : List Int) : rb v l ≤ l.length := List.countP_le_length
theorem rk_split {l : List Int} (h : Asc l) (v : Int) : ∀ i a, l[i]? = some a → (a ≤ v ↔ i < rk v l) := by
  induction l with
  | nil => intro i a ha; simp at ha
  | cons x l ih =>
    obtain ⟨h1, h2⟩ := List.pairwise_cons.1 h
    intro i a ha
    have e : rk v (x :: l) = rk v l + if x ≤ v then 1 else 0 := by
      unfold rk; rw [List.countP_cons]; simp
    by_cases hx : x ≤ v
    · rw [if_pos hx] at e
      match i, ha with
      | 0, ha => simp at ha; subst ha; rw [e]; exact ⟨fun _ => by omega, fun _ => hx⟩
      | i + 1, ha => rw [e, ih h2 i a (by simpa using ha)]; omega
    · rw [if_neg hx] at e
      have h0 : rk v l = 0 := by
        unfold rk
        rw [List.countP_eq_zero]
        intro y hy
        have := h1 y hy
        simp; omega
      rw [e, h0]
      match i, ha with
      | 0, ha => simp at ha; subst ha; exact ⟨fun g => absurd g hx, fun g => by omega⟩
      | i + 1, ha =>
        have := h1 a (List.mem_of_getElem? (by simpa using ha))
        exact ⟨fun g => by omega, fun g => by omega⟩
theorem rb_split {l : List Int} (h : Asc l) (v : Int) : ∀ i a, l[i]? = some a → (a < v ↔ i < rb v l) := by
  have e : rb v l = rk (v - 1) l := by
    unfold rb rk
    exact List.countP_congr fun x _ => by simp; omega
  intro i a ha
  rw [e, ← rk_split h (v - 1) i a ha]
  omega
end Go.Proofs.YtbageimconenlaaGreat
