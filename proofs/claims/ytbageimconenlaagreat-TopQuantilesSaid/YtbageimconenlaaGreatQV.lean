/- A home for what is made; items run through a window of quantiles (plain). -/
import Derived.Test.YtbageimconenlaaGreatQU
namespace Go.Proofs.YtbageimconenlaaGreat
open Go.RowKit En
set_option linter.unusedVariables false
def hereF (B0 : Nat) (p : Pl) (w : World) : Prop := B0 ≤ w.heap.size
theorem Ren.rnilZ {I : Nat} {s : St} (m t : Nat) (C C' : List Value) (B0 : Nat) (Z : Nat → Prop) (q j d : Nat) (hd : lk s.σ d = some (.deep (hereF B0))) (hq : memB q s.al = false) (hm : lk s.σ m = some (.row t C)) (hC : C[j]? = some (.slice none 0 0)) (hC' : C.set j (.slice (some ⟨q, 0, none⟩) 0 0) = C') :
    Ren I s ⟨s.tm, (m, .row t C') :: (q, .deep (blZ B0 Z [])) :: s.σ, q :: s.al, s.nt⟩ := by
  have hq' : q ∉ s.al := fun hm => by rw [memB_iff.2 hm] at hq; cases hq
  refine ⟨rfl, fun c ρ a w hc hs => ?_⟩
  have hag : agr s.al (upd ρ q (pl4 0 0 0 true)) ρ := upd_agr ρ _ hq'
  obtain ⟨hb1, hb2, hb3⟩ := hs.bx m _ hm
  have hmq : m ≠ q := fun e => hq' (e ▸ hb2)
  have hrow : ∀ n b, lk ((m, Box.row t C') :: (q, Box.deep (blZ B0 Z [])) :: s.σ) n = some b → (n = m ∧ b = .row t C') ∨ (n = q ∧ b = .deep (blZ B0 Z [])) ∨ (n ≠ m ∧ n ≠ q ∧ lk s.σ n = some b) := fun n b hb => by
    rw [lk_cons] at hb
    split at hb
    · rename_i e1; subst e1; cases hb; exact .inl ⟨rfl, rfl⟩
    · rw [lk_cons] at hb
      split at hb
      · rename_i e1; subst e1; cases hb; exact .inr (.inl ⟨rfl, rfl⟩)
      · rename_i h1 h2; exact .inr (.inr ⟨fun h => h1 h.symm, fun h => h2 h.symm, hb⟩)
  have hcells : rL (upd ρ q (pl4 0 0 0 true)) C' = rL ρ C := by
    unfold rL
    rw [← hC']
    refine List.ext_getElem? fun i => ?_
    rw [List.getElem?_map, List.getElem?_map, List.getElem?_set]
    split
    · rename_i e1
      subst e1
      rw [hC, if_pos (List.getElem?_eq_some_iff.1 hC).1]
      show some (Value.slice (bif (upd ρ q (pl4 0 0 0 true) q).nil then (upd ρ q (pl4 0 0 0 true) q).alt else some (rA _ _)) 0 (upd ρ q (pl4 0 0 0 true) q).cap) = some (.slice none 0 0)
      rw [upd_same]; rfl
    · cases hi : C[i]? with
      | none => rfl
      | some v => show some _ = some _; rw [hb3 v (List.mem_of_getElem? hi) _ _ hag]
  refine ⟨upd ρ q (pl4 0 0 0 true), hs.df, hs.nt, hs.bl, hs.hB, fun n hn => ?_, fun n hn => List.mem_cons_of_mem _ (hs.al n hn), fun t' v hv => ?_, fun n b hb => ?_, fun n p b b' hn hm' hne hw hh => ?_⟩
  · rw [hag n (hs.al n hn)]; exact hs.fx n hn
  · obtain ⟨h1, h2⟩ := hs.tm t' v hv
    exact ⟨by rw [h2 _ _ hag]; exact h1, h2.mono fun n hn => List.mem_cons_of_mem _ hn⟩
  · rcases hrow n b hb with ⟨rfl, rfl⟩ | ⟨rfl, rfl⟩ | ⟨_, _, hb⟩
    · obtain ⟨r1, r2, r3, r4⟩ := hb1
      refine ⟨⟨?_, ?_, ?_, ?_⟩, List.mem_cons_of_mem _ hb2, fun v hv => ?_⟩
      · rw [hag n hb2]; exact r1
      · rw [hag n hb2]; exact r2
      · rw [hag n hb2]; exact r3
      · rw [hag n hb2, hcells]; exact r4
      · have hv : v ∈ C' := hv
        rw [← hC'] at hv
        rcases List.mem_or_eq_of_mem_set hv with h | h
        · exact (hb3 v h).mono fun n hn => List.mem_cons_of_mem _ hn
        · subst h; exact nbC_NBc (show memB q (q :: s.al) = true from memB_iff.2 List.mem_cons_self)
    · refine ⟨?_, List.mem_cons_self, fun v hv => nomatch hv⟩
      unfold BoxOK
      rw [upd_same]
      exact ⟨fun g hg => False.elim hg, fun w' hs' _ => ⟨⟨[], rfl, BL.nil w', fun g hg => by
        rcases hg with ⟨h0, _⟩ | ⟨b, hb, _⟩
        · exact absurd h0 (Nat.lt_irrefl _)
        · cases hb⟩, Nat.le_trans (box_deep_at (hs.bx d _ hd).1) hs'⟩⟩
    · obtain ⟨h1, h2, h3⟩ := hs.bx n b hb
      exact ⟨h1.keep (hag n h2) (fun v hv => h3 v hv _ _ hag) (Nat.le_refl _) fun _ _ => rfl, List.mem_cons_of_mem _ h2, fun v hv => (h3 v hv).mono fun n hn => List.mem_cons_of_mem _ hn⟩
  · rcases hrow n b hn with ⟨rfl, rfl⟩ | ⟨rfl, rfl⟩ | ⟨_, _, hn2⟩
    · rcases hrow p b' hm' with ⟨rfl, rfl⟩ | ⟨rfl, rfl⟩ | ⟨_, _, hm2⟩
      · exact hne rfl
      · exact absurd hh (by show ¬ (upd ρ p (pl4 0 0 0 true) p).fp _; rw [upd_same]; exact fun h => h)
      · rw [hag n hb2] at hh
        rw [hag p (hs.bx p b' hm2).2.1] at hh
        exact hs.ap n p _ b' hm hm2 hne trivial hh
    · exact hw
    · have hnl := (hs.bx n b hn2).2.1
      rw [hag n hnl] at hw hh
      rcases hrow p b' hm' with ⟨rfl, rfl⟩ | ⟨rfl, rfl⟩ | ⟨_, _, hm2⟩
      · rw [hag p hb2] at hh
        exact hs.ap n p b _ hn2 hm hne hw hh
      · exact absurd hh (by show ¬ (upd ρ p (pl4 0 0 0 true) p).fp _; rw [upd_same]; exact fun h => h)
      · rw [hag p (hs.bx p b' hm2).2.1] at hh
        exact hs.ap n p b b' hn2 hm2 hne hw hh
section
variable {P : Program}
theorem fun_sliceH {tb : (List (Nat × TI))} (hT : TbOK P tb) {f : FuncId} {fn : Func} {c : Code} (hm : P.follows .mixedOrders = true) (hf : P.funcs[f]? = some fn) (hb : fn.body = some c) (G : Value → List Value) (n k : Nat) (cells : List Value) {A : Option Addr} {cp : Nat} {w : World} (h : SL w A n cp k cells) (hk : 0 < k) (hfc : allFC cells = true)
    (vs : List Value) (hvs : G (.slice (some ⟨0, 0, none⟩) n 0) = vs) (hG : ∀ ρ, (G (.slice (some ⟨0, 0, none⟩) n 0)).map (rV ρ) = G (rC ρ (.slice (some ⟨0, 0, none⟩) n 0)))
    (nt : Nat) (tm : List (Nat × Value)) (htm : tmOf vs 0 = tm) (hnt : vs.length + (fn.ntmps - vs.length) = nt) (hd : dcode nt c = true) (hnb : allN1 [1, 0] vs = true) (htu : noTup vs = true)
    (T : Nat → Value → St → Prop) (hac : ∀ B0, AC P tb 2 c ⟨tm, [(0, .view k cells), (1, .deep (hereF B0))], [1, 0], nt⟩ (FQ tb fn.results.toList (T B0))) :
    Calls P f (G (.slice A n cp)).toArray w (fun e w' => ∃ v s ρ a, T w.heap.size v s ∧ e = .returned (rV ρ v) ∧ Sat ⟨w.heap.size, w, fun i => if i = 0 then plOf A cp else plE [], 2⟩ ρ s a w') := by
  have := fun_fin hT (I := 2) hm hf hb vs [(0, .view k cells), (1, .deep (hereF w.heap.size))] (fun i => if i = 0 then plOf A cp else plE []) w nt tm htm hnt hd [1, 0] rfl hnb htu (fun m b hmb => by
    rw [lk_cons] at hmb
    split at hmb
    · rename_i e
      subst e
      cases hmb
      exact ⟨by omega, h.view hfc hk rfl, fun v hv => NBc.flat (allFC_spec hfc v hv), fun hw => hw⟩
    · rw [lk_cons] at hmb
      split at hmb
      · rename_i e
        subst e
        cases hmb
        refine ⟨by omega, ⟨fun g hg => ?_, fun w' hs _ => hs⟩, fun v hv => absurd hv List.not_mem_nil, fun hw => hw⟩
        obtain ⟨b, hb, _⟩ := hg
        cases hb
      · cases hmb) _ (hac w.heap.size)
  rw [← hvs, hG, plOf_slice (ρ := fun i => if i = 0 then plOf A cp else plE []) (A := A) (c := cp) (i := 0) rfl] at this
  exact this
theorem AOk.callLV {s : St} {o : Oper} {c : Call} {g : FuncId} (G : Value → List Value) (n len k : Nat) (cells : List Value) {b : Box} (F : Value → Value → Value) (q n' : Nat) (es' : List Eb) (q2 n2 k2 : Nat) (cells2 : List Value)
    (C : ∀ (w : World) (A : Option Addr) (c' : Nat), SL w A len c' k cells → Calls P g (G (.slice A len c')).toArray w (fun e w' => ∃ A' c'' l' A2 c2, l'.map Bk.e = es' ∧ e = .returned (F (.slice A' n' c'') (.slice A2 n2 c2)) ∧ BL w' A' n' c'' l' ∧ (∀ g, fpL A' n' l' g → w.heap.size ≤ g) ∧ SL w' A2 n2 c2 k2 cells2 ∧ (∀ g, blkOf A2 n2 g → w.heap.size ≤ g) ∧ Below w.heap.size w w'))
    (hent : Enters P g) (ho : o.op = .call c) (hc : c.callee = .value (.func g)) (hargs : evs s c.args.toList = some (G (.slice (some ⟨n, 0, none⟩) len 0))) (hG : ∀ ρ, (G (.slice (some ⟨n, 0, none⟩) len 0)).map (rV ρ) = G (rC ρ (.slice (some ⟨n, 0, none⟩) len 0)))
    (hb : lk s.σ n = some b) (hbc : ∀ (j : Nat) (v : Value), cells[j]? = some v → b.cells[j]? = some v) (hk : 0 < k) (hl : cells.length = len * k) (hf : allFC cells = true) (hbk : kBox k b = true) (hq : memB q s.al = false) (hq2 : memB q2 s.al = false) (hne : q ≠ q2) (hn' : es'.length = n') (hk2 : 0 < k2) (hl2 : cells2.length = n2 * k2) (hf2 : allFC cells2 = true)
    (hF : ∀ ρ, rV ρ (F (.slice (some ⟨q, 0, none⟩) n' 0) (.slice (some ⟨q2, 0, none⟩) n2 0)) = F (rC ρ (.slice (some ⟨q, 0, none⟩) n' 0)) (rC ρ (.slice (some ⟨q2, 0, none⟩) n2 0))) (hN : nbV [q, q2] (F (.slice (some ⟨q, 0, none⟩) n' 0) (.slice (some ⟨q2, 0, none⟩) n2 0)) = true) :
    AOk P s o ⟨rq s c.args.toList, [(n, b)]⟩ ⟨F (.slice (some ⟨q, 0, none⟩) n' 0) (.slice (some ⟨q2, 0, none⟩) n2 0), [], [(q, .deep (blF es')), (q2, .view k2 cells2)]⟩ := by
  have hqn : q ∉ s.al := fun hm => by rw [memB_iff.2 hm] at hq; cases hq
  have hqn2 : q2 ∉ s.al := fun hm => by rw [memB_iff.2 hm] at hq2; cases hq2
  refine .callG hent ho hc hargs (fun m b' h => ?_) (fun m b' h => no_mem h) (.inr fun m b' h => no_mem h) (fun m b' h => ?_) (fun al _ _ => ⟨(nbV_NB hN).mono (fun m hm => ?_), fun m b' h => no_mem h, fun m b' h v hv => ?_⟩) fun B ρ w al hB hbx _ _ _ => ?_
  · simp at h; obtain ⟨rfl, rfl⟩ := h; exact hb
  · simp at h; rcases h with ⟨rfl, _⟩ | ⟨rfl, _⟩ <;> assumption
  · simp at hm ⊢; rcases hm with rfl | rfl <;> simp
  · simp at h
    rcases h with ⟨rfl, rfl⟩ | ⟨rfl, rfl⟩
    · cases hv
    · exact NBc.flat (allFC_spec hf2 v hv)
  · obtain ⟨A, c', h1, h2⟩ := box_SL (hbx n b List.mem_cons_self) hbc hk hl hf hbk
    rw [hG, h1]
    refine (C w A c' h2).mono fun e w' he => ?_
    obtain ⟨A', c'', l', A2, c2, h4, rfl, h5, h6, h7, h8, hb'⟩ := he
    have e1 : upd (upd ρ q (plD A' c'' n' l')) q2 (plOf A2 c2) q = plD A' c'' n' l' := by rw [upd_other _ _ hne, upd_same]
    have e2 : upd (upd ρ q (plD A' c'' n' l')) q2 (plOf A2 c2) q2 = plOf A2 c2 := upd_same _ _ _
    refine ⟨upd (upd ρ q (plD A' c'' n' l')) q2 (plOf A2 c2), ?_, hb'.os, hb'.tape, hb'.output, hb'.size, fun k hk _ => hb'.block k hk, fun m hm => ?_, fun m b' h => no_mem h, fun m b' h => ?_, fun m b' h gh hh => ?_, fun m b1 m2 b2 h h2 hne2 hw hh => ?_⟩
    · rw [hF, plOf_slice e2, plD_slice e1]
    · have m1 : m ≠ q := by rintro rfl; exact hm _ List.mem_cons_self
      have m2 : m ≠ q2 := by rintro rfl; exact hm _ (List.mem_cons_of_mem _ List.mem_cons_self)
      rw [upd_other _ _ m2, upd_other _ _ m1]
    · simp at h
      rcases h with ⟨rfl, rfl⟩ | ⟨rfl, rfl⟩
      · exact box_blF h5 h4 hn' e1
      · exact h7.view hf2 hk2 e2
    · simp at h
      rcases h with ⟨rfl, rfl⟩ | ⟨rfl, rfl⟩
      · replace hh : (upd (upd ρ m (plD A' c'' n' l')) q2 (plOf A2 c2) m).fp gh := hh
        rw [e1] at hh
        exact .inl (h6 gh hh)
      · replace hh : cells2 ≠ [] ∧ (upd (upd ρ q (plD A' c'' n' l')) m (plOf A2 c2) m).b = gh := hh
        rw [e2] at hh
        left
        have hn2 : 0 < n2 := by
          rcases Nat.eq_zero_or_pos n2 with g | g
          · rw [g, Nat.zero_mul] at hl2
            exact absurd (List.length_eq_zero_iff.1 hl2) hh.1
          · exact g
        obtain ⟨b', o', rfl, _⟩ := h7.sl.2 hn2
        have hbg : b' = gh := hh.2
        exact h8 gh ⟨hn2, o', by rw [hbg]⟩
    · simp at h
      rcases h with ⟨rfl, rfl⟩ | ⟨rfl, rfl⟩
      · exact hw
      · exact hw
end
theorem it_own {B o n : Nat} {ρ : Nat → Pl} {w : World} {L : List It} (bo : BoxOK B ρ w o (.vec 88 2 (itL L))) (hn : L.length = n) :
    ∃ A' c', rC ρ (.slice (some ⟨o, 0, none⟩) n 0) = .slice A' n c' ∧ SL w A' n c' 2 (itL L) ∧ ∀ g, blkOf A' n g → B ≤ g := by
  obtain ⟨A', c', h1, h2⟩ := box_SL (cells := itL L) (len := n) (k := 2) bo (fun _ _ h => h) (by decide) (by rw [itL_len, hn]) (allFC_it _) rfl
  refine ⟨A', c', h1, h2, fun g hg => ?_⟩
  obtain ⟨h0, o', h3⟩ := hg
  obtain ⟨_, hb⟩ := bo
  rcases hb with ⟨_, _, h5⟩ | ⟨h5, h6, _⟩
  · have := congrArg List.length h5
    rw [itL_len, hn] at this; simp at this; omega
  · rw [plAd_slice] at h1
    injection h1 with e1 _ _
    rw [h3] at e1
    unfold plAd at e1
    rw [h5] at e1
    cases e1
    exact h6
def loT (w0 u : Int) : Int := if u - w0 + 1 > 0 then u - w0 + 1 else 0
theorem loT_spec {w0 u t : Int} (h : 0 ≤ t) : t < loT w0 u ↔ t ≤ u - w0 := by
  unfold loT
  split <;> omega
def rnStep (w0 : Int) (k cap : Nat) (p : List It × List Eb) (x : It) : List It × List Eb :=
  if totE (expE (loT w0 x.t) p.2) = cap then (p.1, expE (loT w0 x.t) p.2) else (p.1 ++ [x], insE (2 * k) (expE (loT w0 x.t) p.2) x.t x.v)
def rnGo (w0 : Int) (k cap : Nat) (l : List It) : List It × List Eb := l.foldl (rnStep w0 k cap) ([], [])
theorem rnGo_take {w0 : Int} {k cap : Nat} {l : List It} {i : Nat} {x : It} (h : l[i]? = some x) : rnGo w0 k cap (l.take (i + 1)) = rnStep w0 k cap (rnGo w0 k cap (l.take i)) x := by
  rw [List.take_add_one, h]; unfold rnGo; rw [Option.toList_some, List.foldl_append]; rfl
structure Rq (w0 : Int) (k cap sz : Nat) : Prop where
  w1 : 1 ≤ w0
  w2 : w0 ≤ 20
  k1 : 1 ≤ k
  k2 : k ≤ 3
  c1 : 2 ≤ cap
  c2 : cap ≤ 61
  hz : 2 * k * (Lib.bitLen cap + 2) = sz
theorem fit_all : ∀ (k : Fin 3) (c : Fin 60) (l : Fin 5), (2 * (k.val + 1) + 1) * 2 ^ l.val ≤ c.val + 2 + 2 * (k.val + 1) → 2 ^ l.val ≤ 2 * (k.val + 1) * (Lib.bitLen (c.val + 2) + 2) + 1 := by decide +kernel
theorem size_all : ∀ (k : Fin 3) (c : Fin 60), 2 * (k.val + 1) * (Lib.bitLen (c.val + 2) + 2) ≤ 60 := by decide +kernel
theorem Rq.sz {w0 : Int} {k cap sz : Nat} (h : Rq w0 k cap sz) : 1 ≤ sz ∧ sz ≤ 60 := by
  obtain ⟨w1, w2, k1, k2, c1, c2, hz⟩ := h
  have h1 := size_all ⟨k - 1, by omega⟩ ⟨cap - 2, by omega⟩
  have e1 : k - 1 + 1 = k := by omega
  have e2 : cap - 2 + 2 = cap := by omega
  simp only [e1, e2, hz] at h1
  refine ⟨?_, h1⟩
  have : 1 ≤ 2 * k * (Lib.bitLen cap + 2) := Nat.mul_pos (by omega) (by omega)
  omega
theorem Rq.fit {w0 : Int} {k cap sz : Nat} (h : Rq w0 k cap sz) (T l : Nat) (hT : T ≤ cap) (hl : (2 * k + 1) * 2 ^ l ≤ T + 2 * k) : ((2 ^ l : Nat) : Int) ≤ ((sz : Nat) : Int) + 1 := by
  obtain ⟨w1, w2, k1, k2, c1, c2, hz⟩ := h
  have hl5 : l < 5 := by
    rcases Nat.lt_or_ge l 5 with g | g
    · exact g
    · have h1 : 2 ^ 5 ≤ 2 ^ l := Nat.pow_le_pow_right (by decide) g
      have h2 : (2 * k + 1) * 2 ^ 5 ≤ (2 * k + 1) * 2 ^ l := Nat.mul_le_mul_left _ h1
      have h3 : (2 * k + 1) * 2 ^ 5 = 64 * k + 32 := by omega
      omega
  have h1 := fit_all ⟨k - 1, by omega⟩ ⟨cap - 2, by omega⟩ ⟨l, hl5⟩
  have e1 : k - 1 + 1 = k := by omega
  have e2 : cap - 2 + 2 = cap := by omega
  simp only [e1, e2, hz] at h1
  have := h1 (by omega)
  omega
theorem len_le_tot : ∀ es : List Eb, es.length ≤ totE es
  | [] => Nat.le_refl _
  | e :: es => by
    have := len_le_tot es
    have h2 := Nat.two_pow_pos e.lv
    rw [totE, List.length_cons]; omega
theorem RQ.qp {ad : List It} {now w0 : Int} {k cap sz : Nat} {es : List Eb} (h : RQ ad now w0 (2 * k) ((sz : Nat) : Int) cap es) (hr : Rq w0 k cap sz) (h0 : 0 ≤ now) (h1 : now ≤ 16777216) : QP es es.length w0 k cap now sz := by
  have hs := hr.sz
  obtain ⟨w1, w2, k1, k2, c1, c2, hz⟩ := hr
  have := len_le_tot es
  have := h.tot
  exact ⟨rfl, by omega, k1, by omega, by omega, by omega, w1, by omega, h0, h1, hz, hs.1, by omega, h.db, h.tot, h.live⟩
structure RnS (ad : List It) (es : List Eb) (now w0 : Int) (k cap sz : Nat) (i : Nat) : Prop where
  rq : RQ ad now w0 (2 * k) ((sz : Nat) : Int) cap es
  len : ad.length ≤ i
theorem rn_step {ad : List It} {es : List Eb} {now w0 : Int} {k cap sz i : Nat} {x : It} (h : RnS ad es now w0 k cap sz i) (hr : Rq w0 k cap sz) (hi : i < 80) (h0 : 0 ≤ now) (hn : now ≤ x.t) (ht : x.t ≤ 16777216) (hv : -4096 ≤ x.v ∧ x.v ≤ 4096) :
    RnS ad (expE (loT w0 x.t) es) x.t w0 k cap sz i ∧ (totE (expE (loT w0 x.t) es) ≠ cap → RnS (ad ++ [x]) (insE (2 * k) (expE (loT w0 x.t) es) x.t x.v) x.t w0 k cap sz (i + 1) ∧ cOK (2 * k) ((sz : Nat) : Int) ((expE (loT w0 x.t) es).length + 1) 0 (expE (loT w0 x.t) es ++ [⟨x.t, x.v, 0, [x.v]⟩])) := by
  have h1 := h.rq.adv (lo := loT w0 x.t) hn fun t ht => loT_spec ht
  refine ⟨⟨h1, h.len⟩, fun hc => ?_⟩
  have hl := h.len
  obtain ⟨h2, h3⟩ := h1.add (v := x.v) (by omega) ht hr.w1 hv.1 hv.2 (by omega) hc (by have := hr.c2; omega) hr.fit
  exact ⟨⟨h2, by rw [List.length_append]; simp; omega⟩, h3⟩
theorem rn_spec {L : List It} {now w0 : Int} {k cap sz : Nat} (hI : Its L now) (h1 : now ≤ 16777216) (hr : Rq w0 k cap sz) : ∀ i, i ≤ L.length → RnS (rnGo w0 k cap (L.take i)).1 (rnGo w0 k cap (L.take i)).2 (tk L i) w0 k cap sz i
  | 0, _ => ⟨RQ.start w0 _ _ _, Nat.le_refl _⟩
  | i + 1, hi => by
    have ih := rn_spec hI h1 hr i (by omega)
    have hlen := hI.len
    obtain ⟨x, hx⟩ : ∃ x, L[i]? = some x := ⟨L[i]'(by omega), List.getElem?_eq_getElem (by omega)⟩
    have hxt := hI.tick x (List.mem_of_getElem? hx)
    have h00 : 0 ≤ tk L i := by unfold tk; split; exact Int.le_refl _; exact (hI.tat (i := i - 1) (by omega)).1
    obtain ⟨s1, s2⟩ := rn_step (x := x) ih hr (by omega) h00 (tk_le hI hx) (by omega) (hI.val x (List.mem_of_getElem? hx))
    rw [rnGo_take hx, tk_succ hx]
    unfold rnStep
    split
    · exact ⟨s1.rq, Nat.le_succ_of_le s1.len⟩
    · rename_i hc
      exact (s2 hc).1
end Go.Proofs.YtbageimconenlaaGreat
