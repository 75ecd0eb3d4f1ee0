/- Lists of blocks: ranks and quantiles of what is sure; functions of a list of blocks into such lists. -/
import Derived.Test.YtbageimconenlaaGreatQS
namespace Go.Proofs.YtbageimconenlaaGreat
open Go.RowKit En
set_option linter.unusedVariables false
theorem ent146 : Enters Tryz.prog 146 := enters Tryz.func146 (by kernel_rfl) (by kernel_rfl)
theorem ent147 : Enters Tryz.prog 147 := enters Tryz.func147 (by kernel_rfl) (by kernel_rfl)
def sumF (S : List Int) (p : Pl) (w : World) : Prop := SL w (plAd p) S.length p.cap 3 (enL 0 S) ∧ ∀ g, blkOf (plAd p) S.length g → p.fp g
def plS (A : Option Addr) (c n : Nat) : Pl := { plOf A c with fp := blkOf A n }
theorem plAd_plS (A : Option Addr) (c n : Nat) : plAd (plS A c n) = A := by
  unfold plAd plS plOf
  split <;> rfl
theorem plS_slice {ρ : (Nat → Pl)} {A : Option Addr} {c i n m : Nat} (hρ : ρ i = plS A c m) : rC ρ (.slice (some ⟨i, 0, none⟩) n 0) = .slice A n c := by
  rw [plAd_slice, hρ, plAd_plS]
  show Value.slice A n (plOf A c).cap = _
  rw [plOf_cap]
theorem box_sumF {B : Nat} {ρ : Nat → Pl} {w : World} {i : Nat} {A : Option Addr} {n c : Nat} {S : List Int} (h : SL w A n c 3 (enL 0 S)) (hn : S.length = n) (hρ : ρ i = plS A c n) : BoxOK B ρ w i (.deep (sumF S)) := by
  unfold BoxOK
  rw [hρ]
  refine ⟨fun g hg => h.blk_lt hg, fun w' hs hk => ⟨?_, fun g hg => ?_⟩⟩
  · rw [plAd_plS, hn]
    show SL w' A n (plOf A c).cap 3 _
    rw [plOf_cap]
    exact h.frame hs hk
  · rw [plAd_plS, hn] at hg
    exact hg
def blZ (B0 : Nat) (Z : Nat → Prop) (es : List Eb) (p : Pl) (w : World) : Prop := (∃ l : List Bk, l.map Bk.e = es ∧ BL w (plAd p) es.length p.cap l ∧ ∀ g, fpL (plAd p) es.length l g → p.fp g ∧ (B0 ≤ g ∨ Z g)) ∧ B0 ≤ w.heap.size
theorem box_blZ {B B0 : Nat} {Z : Nat → Prop} {ρ : Nat → Pl} {w : World} {i : Nat} {A : Option Addr} {n c : Nat} {l : List Bk} {es : List Eb} (h : BL w A n c l) (he : l.map Bk.e = es) (hn : es.length = n) (hZ : ∀ g, fpL A n l g → B0 ≤ g ∨ Z g) (hB : B0 ≤ w.heap.size) (hρ : ρ i = plD A c n l) : BoxOK B ρ w i (.deep (blZ B0 Z es)) := by
  unfold BoxOK
  rw [hρ]
  refine ⟨fun g hg => h.blk_lt hg, fun w' hs hk => ⟨⟨l, he, ?_, fun g hg => ?_⟩, Nat.le_trans hB hs⟩⟩
  · rw [plAd_plD, plD_cap, hn]
    exact h.frame hs hk
  · rw [plAd_plD, hn] at hg
    exact ⟨hg, hZ g hg⟩
section
variable {P : Program}
theorem AOk.callSF {s : St} {o : Oper} {c : Call} {g : FuncId} (F : Value → Value) (q n : Nat) (S : List Int) {vs : List Value} {σ : List (Nat × Box)} (hn : S.length = n)
    (C : ∀ (B : Nat) (ρ : (Nat → Pl)) (w : World), B ≤ w.heap.size → (∀ n b, (n, b) ∈ σ → BoxOK B ρ w n b) → ∃ Hh : Nat → Prop, (∀ g, Hh g → ∃ m b, (m, b) ∈ σ ∧ ¬ b.wr (ρ m) ∧ b.hit (ρ m) g) ∧ Calls P g (vs.map (rV ρ)).toArray w (fun e' w' => ∃ A c', e' = .returned (F (.slice A n c')) ∧ SL w' A n c' 3 (enL 0 S) ∧ (∀ g, blkOf A n g → w.heap.size ≤ g ∨ Hh g) ∧ Below w.heap.size w w'))
    (hent : Enters P g) (ho : o.op = .call c) (hc : c.callee = .value (.func g)) (hargs : evs s c.args.toList = some vs) (hσ : ∀ n b, (n, b) ∈ σ → lk s.σ n = some b) (hq : memB q s.al = false)
    (hF : ∀ ρ, rV ρ (F (.slice (some ⟨q, 0, none⟩) n 0)) = F (rC ρ (.slice (some ⟨q, 0, none⟩) n 0))) (hN : nbV [q] (F (.slice (some ⟨q, 0, none⟩) n 0)) = true) :
    AOk P s o ⟨rq s c.args.toList, σ⟩ ⟨F (.slice (some ⟨q, 0, none⟩) n 0), [], [(q, .deep (sumF S))]⟩ := by
  refine .callH hent ho hc hargs hσ (fun n b h => no_mem h) (.inr fun n b h => no_mem h) (fun n b h => ?_) (fun al _ _ => ⟨(nbV_NB hN).mono (fun n hn => by simp at hn ⊢; exact .inl hn), fun n b h => no_mem h, fun n b h v hv => ?_⟩) fun B ρ w al hB hbx _ _ _ H hH => ?_
  · simp at h; rw [h.1]; intro hm; rw [memB_iff.2 hm] at hq; cases hq
  · simp at h
    obtain ⟨rfl, rfl⟩ := h
    cases hv
  · obtain ⟨Hh, h1, h2⟩ := C B ρ w hB hbx
    refine h2.mono fun e' w' he => ?_
    obtain ⟨A', c'', rfl, h5, h6, hb⟩ := he
    have hbox : BoxOK B (upd ρ q (plS A' c'' n)) w' q (.deep (sumF S)) := box_sumF h5 hn (upd_same _ _ _)
    refine ⟨upd ρ q (plS A' c'' n), by rw [hF, plS_slice (upd_same _ _ _)], hb.os, hb.tape, hb.output, hb.size, fun g hg _ => hb.block g hg, fun n hn => upd_other ρ _ (by rintro rfl; exact hn _ List.mem_cons_self), fun n b hb => no_mem hb, fun n b' hb' => ?_, fun n b' hb' g hg => ?_, fun n b1 m b2 hb1 hb2 hne => ?_⟩
    · simp only [List.mem_singleton] at hb'
      cases hb'
      exact hbox
    · simp only [List.mem_singleton] at hb'
      cases hb'
      have hg : blkOf A' n g := by
        have : (upd ρ q (plS A' c'' n) q).fp g := hg
        rw [upd_same] at this; exact this
      rcases h6 g hg with h7 | h7
      · exact .inl h7
      · obtain ⟨m, b, hm, hw, hh⟩ := h1 g h7
        exact .inr (.inr ⟨fun h => h, hH m b hm hw g hh⟩)
    · simp only [List.mem_singleton] at hb1 hb2
      cases hb1; cases hb2
      exact absurd rfl hne
theorem AOk.callDZ {s : St} {o : Oper} {c : Call} {g : FuncId} (G : Value → List Value) (q n B0 : Nat) (Z : Nat → Prop) (es : List Eb) {v : Value}
    (C : ∀ (w : World) (A : Option Addr) (c' : Nat) (l : List Bk), BL w A n c' l → l.map Bk.e = es → Calls P g (G (.slice A n c')).toArray w (fun e w' => e = .returned v ∧ Below w.heap.size w w'))
    (hent : Enters P g) (ho : o.op = .call c) (hc : c.callee = .value (.func g)) (hargs : evs s c.args.toList = some (G (.slice (some ⟨q, 0, none⟩) n 0))) (hG : ∀ ρ, (G (.slice (some ⟨q, 0, none⟩) n 0)).map (rV ρ) = G (rC ρ (.slice (some ⟨q, 0, none⟩) n 0)))
    (hb : lk s.σ q = some (.deep (blZ B0 Z es))) (hn : es.length = n) (hv : flatV v = true) : AOk P s o ⟨rq s c.args.toList, [(q, .deep (blZ B0 Z es))]⟩ ⟨v, [], []⟩ :=
  .callV (fun B ρ w hB hσ => by
    obtain ⟨⟨l, h1, h2, _⟩, _⟩ := box_deep_at (hσ q _ List.mem_cons_self)
    rw [hG, plAd_slice]
    rw [hn] at h2
    exact C w _ _ l h2 h1) hent ho hc hargs (fun m b' h => by simp at h; obtain ⟨rfl, rfl⟩ := h; exact hb) hv
theorem AOk.callLZ {s : St} {o : Oper} {c : Call} {g : FuncId} (G : Value → List Value) (q n B0 : Nat) (Z : Nat → Prop) (es : List Eb) (F : Value → Value) (q' n' : Nat) (es' : List Eb)
    (C : ∀ (w : World) (A : Option Addr) (c' : Nat) (l : List Bk), BL w A n c' l → l.map Bk.e = es → Calls P g (G (.slice A n c')).toArray w (fun e w' => ∃ A' c'' l', l'.map Bk.e = es' ∧ e = .returned (F (.slice A' n' c'')) ∧ BL w' A' n' c'' l' ∧ (∀ g, fpL A' n' l' g → w.heap.size ≤ g ∨ fpL A n l g) ∧ Below w.heap.size w w'))
    (hent : Enters P g) (ho : o.op = .call c) (hc : c.callee = .value (.func g)) (hargs : evs s c.args.toList = some (G (.slice (some ⟨q, 0, none⟩) n 0))) (hG : ∀ ρ, (G (.slice (some ⟨q, 0, none⟩) n 0)).map (rV ρ) = G (rC ρ (.slice (some ⟨q, 0, none⟩) n 0)))
    (hb : lk s.σ q = some (.deep (blZ B0 Z es))) (hn : es.length = n) (hn' : es'.length = n') (hq : memB q' s.al = false)
    (hF : ∀ ρ, rV ρ (F (.slice (some ⟨q', 0, none⟩) n' 0)) = F (rC ρ (.slice (some ⟨q', 0, none⟩) n' 0))) (hN : nbV [q'] (F (.slice (some ⟨q', 0, none⟩) n' 0)) = true) :
    AOk P s o ⟨rq s c.args.toList, [(q, .deep (blZ B0 Z es))]⟩ ⟨F (.slice (some ⟨q', 0, none⟩) n' 0), [], [(q', .deep (blZ B0 Z es'))]⟩ := by
  refine .callH hent ho hc hargs (fun m b' h => by simp at h; obtain ⟨rfl, rfl⟩ := h; exact hb) (fun n b h => no_mem h) (.inr fun n b h => no_mem h) (fun n b h => ?_) (fun al _ _ => ⟨(nbV_NB hN).mono (fun n hn => by simp at hn ⊢; exact .inl hn), fun n b h => no_mem h, fun n b h v hv => ?_⟩) fun B ρ w al hB hbx _ _ _ H hH => ?_
  · simp at h; rw [h.1]; intro hm; rw [memB_iff.2 hm] at hq; cases hq
  · simp at h
    obtain ⟨rfl, rfl⟩ := h
    cases hv
  · obtain ⟨⟨l, h1, h2, h3⟩, hB0⟩ := box_deep_at (hbx q _ List.mem_cons_self)
    rw [hn] at h2 h3
    rw [hG, plAd_slice]
    refine (C w _ _ l h2 h1).mono fun e' w' he => ?_
    obtain ⟨A', c'', l', h4, rfl, h5, h6, hb⟩ := he
    have hZ : ∀ g, fpL A' n' l' g → B0 ≤ g ∨ Z g := fun g hg => by
      rcases h6 g hg with h7 | h7
      · exact .inl (Nat.le_trans hB0 h7)
      · exact (h3 g h7).2
    have hbox : BoxOK B (upd ρ q' (plD A' c'' n' l')) w' q' (.deep (blZ B0 Z es')) := box_blZ h5 h4 hn' hZ (Nat.le_trans hB0 hb.size) (upd_same _ _ _)
    refine ⟨upd ρ q' (plD A' c'' n' l'), by rw [hF, plD_slice (upd_same _ _ _)], hb.os, hb.tape, hb.output, hb.size, fun g hg _ => hb.block g hg, fun n hn => upd_other ρ _ (by rintro rfl; exact hn _ List.mem_cons_self), fun n b hb => no_mem hb, fun n b' hb' => ?_, fun n b' hb' g hg => ?_, fun n b1 m b2 hb1 hb2 hne => ?_⟩
    · simp only [List.mem_singleton] at hb'
      cases hb'
      exact hbox
    · simp only [List.mem_singleton] at hb'
      cases hb'
      have hg : fpL A' n' l' g := by
        have : (upd ρ q' (plD A' c'' n' l') q').fp g := hg
        rw [upd_same] at this; exact this
      rcases h6 g hg with h7 | h7
      · exact .inl h7
      · exact .inr (.inr ⟨fun h => h, hH q _ List.mem_cons_self (fun h => h) g (h3 g h7).1⟩)
    · simp only [List.mem_singleton] at hb1 hb2
      cases hb1; cases hb2
      exact absurd rfl hne
theorem fun_dzO {tb : (List (Nat × TI))} (hT : TbOK P tb) {f : FuncId} {fn : Func} {c : Code} (hm : P.follows .mixedOrders = true) (hf : P.funcs[f]? = some fn) (hb : fn.body = some c) (G : Value → List Value) (es : List Eb) {A : Option Addr} {n cp : Nat} {w : World} {l : List Bk} (h : BL w A n cp l) (he : l.map Bk.e = es) (hn : es.length = n)
    (vs : List Value) (hvs : G (.slice (some ⟨0, 0, none⟩) n 0) = vs) (hG : ∀ ρ, (G (.slice (some ⟨0, 0, none⟩) n 0)).map (rV ρ) = G (rC ρ (.slice (some ⟨0, 0, none⟩) n 0)))
    (nt : Nat) (tm : List (Nat × Value)) (htm : tmOf vs 0 = tm) (hnt : vs.length + (fn.ntmps - vs.length) = nt) (hd : dcode nt c = true) (hnb : allN1 [0] vs = true) (htu : noTup vs = true)
    (F : Value → Value) (n' : Nat) (es' : List Eb) (hn' : es'.length = n') (hF : ∀ q ρ, rV ρ (F (.slice (some ⟨q, 0, none⟩) n' 0)) = F (rC ρ (.slice (some ⟨q, 0, none⟩) n' 0)))
    (hac : ∀ (B0 : Nat) (Z : Nat → Prop), AC P tb 1 c ⟨tm, [(0, .deep (blZ B0 Z es))], [0], nt⟩ (FQ tb fn.results.toList fun v st => ∃ q, v = F (.slice (some ⟨q, 0, none⟩) n' 0) ∧ lk st.σ q = some (.deep (blZ B0 Z es')))) :
    Calls P f (G (.slice A n cp)).toArray w (fun e w' => ∃ A' c'' l', l'.map Bk.e = es' ∧ e = .returned (F (.slice A' n' c'')) ∧ BL w' A' n' c'' l' ∧ (∀ g, fpL A' n' l' g → w.heap.size ≤ g ∨ fpL A n l g) ∧ Below w.heap.size w w') := by
  have := fun_fin hT (I := 1) hm hf hb vs [(0, .deep (blZ w.heap.size (fpL A n l) es))] (fun _ => plD A cp n l) w nt tm htm hnt hd [0] rfl hnb htu (fun m b hmb => by
    rw [lk_cons] at hmb
    split at hmb
    · rename_i e
      subst e
      cases hmb
      exact ⟨by omega, box_blZ h he hn (fun g hg => .inr hg) (Nat.le_refl _) rfl, fun v hv => absurd hv List.not_mem_nil, fun hw => hw⟩
    · cases hmb) _ (hac w.heap.size (fpL A n l))
  rw [← hvs, hG, plD_slice (ρ := fun _ => plD A cp n l) (A := A) (c := cp) rfl] at this
  refine this.mono fun e w' he => ?_
  obtain ⟨v, s, ρ, a, ⟨q, rfl, hq⟩, rfl, hs⟩ := he
  obtain ⟨⟨l', h1, h2, h3⟩, _⟩ := box_deep_at (hs.bx _ _ hq).1
  rw [hn'] at h2 h3
  exact ⟨plAd (ρ q), (ρ q).cap, l', h1, by rw [hF, plAd_slice], h2, fun g hg => (h3 g hg).2, hs.bl⟩
end
set_option maxRecDepth 100000 in
set_option maxHeartbeats 1000000 in
theorem qt_rank0 (l : List Bk) (n k : Nat) (b : Int) (hn : n ≤ 900) (hd : DB (l.map Bk.e) k b) (v : Int) (hr : sureE (l.map Bk.e) = sureE (l.map Bk.e)) (h0 : n = 0) (w : World) (A : Option Addr) (c : Nat) (h : BL w A n c l) :
    Calls Tryz.prog 146 #[.slice A n c, .int .i64 v] w (fun e w' => e = .returned (.tuple #[.agg #[.int .i64 0, .int .i64 1, .int .i64 0, .int .i64 1, .int .i64 0, .int .i64 1], .int .i64 0]) ∧ Below w.heap.size w w') := by
  have hl := h.len
  obtain ⟨S, hS⟩ : ∃ S, sureE (l.map Bk.e) = S := ⟨_, rfl⟩
  obtain ⟨N, hN⟩ : ∃ N, S.length = N := ⟨_, rfl⟩
  have hSure := fun (w : World) (A : Option Addr) (c : Nat) (h : BL w A n c l) => qs_sure l n k b hn hd w A c h
  rw [hS, hN] at hSure
  rw [hS] at hr
  have hSa : Asc S ∧ N ≤ 900 := by
    rw [← hN, ← hS]
    match hm : l.map Bk.e with
    | [] => exact ⟨List.Pairwise.nil, Nat.zero_le _⟩
    | e :: r =>
      have hd' := hd
      rw [hm] at hd'
      have := sureI_ok (y := e) (r := r) (hd'.ok e List.mem_cons_self) (fun x hx => hd'.ok x (List.mem_cons_of_mem _ hx)) hd'.tot r.length
      rw [sureI_all (Nat.le_refl _)] at this
      exact ⟨this.1, this.2.2⟩
  refine (fun_bl tblOK mixedP Tryz.func146 rfl (fun s => [s, .int .i64 v]) h [.slice (some ⟨0, 0, none⟩) n 0, .int .i64 v] rfl (fun _ => rfl) 54 [(0, .slice (some ⟨0, 0, none⟩) n 0), (1, .int .i64 v)] rfl rfl (by kernel_rfl) rfl rfl (fun uu st => uu = .tuple #[.agg #[.int .i64 0, .int .i64 1, .int .i64 0, .int .i64 1, .int .i64 0, .int .i64 1], .int .i64 0]) (by
    have z0 : ((0 : Int) != 0) = false := rfl
    have z1 : ((n : Int) == 0) = true := by rw [h0]; rfl
    repeat' (first | rw [z0] | rw [z1] | refine AR.auto rfl ?_ | refine AR.man (AOk.callSF (fun s => .tuple #[.agg #[.int .i64 ((N : Nat)), s], .int .i64 0]) 7 N S (σ := [(0, .view 5 (bkQL l)), (1, .deep (entF l))]) (vs := [.slice (some ⟨0, 0, none⟩) n 0]) hN (fun B ρ w hB hσ => ⟨fpE l, fun g hg => ⟨1, _, List.mem_cons_of_mem _ List.mem_cons_self, fun h => h, by obtain ⟨b, hb, h⟩ := hg; exact (box_deep_at (hσ 1 _ (List.mem_cons_of_mem _ List.mem_cons_self)) b hb).2 g h⟩, by obtain ⟨A, c', h1, h2⟩ := bl_of hσ rfl rfl hl; show Calls _ _ #[rC ρ (.slice (some ⟨0, 0, none⟩) n 0)] _ _; rw [h1]; exact hSure w A c' h2⟩) ent198 rfl rfl rfl (fun n b h => by simp at h; rcases h with ⟨rfl, rfl⟩ | ⟨rfl, rfl⟩ <;> rfl) rfl (fun _ => rfl) rfl) rfl rfl rfl ?_ | refine AR.man (AOk.call (fun w => gr_of _ w) ent67 rfl rfl rfl rfl rfl) rfl rfl rfl ?_ | refine AR.man (ok_nb_exact (n := 0) (d := 1) ⟨by decide, by decide, by decide, rfl⟩ rfl rfl rfl) rfl rfl rfl ?_ | refine AR.nil ?_ | refine KF.mk ?_ | refine KT.mk (by kernel_rfl) ?_ | refine SQ.normal ?_ | refine AC.seq ?_ | refine AC.regF ?_ | refine AC.regT ?_ | refine AC.condT rfl ?_ | refine AC.condF rfl ?_ | refine AC.block ?_ | refine BQ.normal ?_ | refine BQ.ret ?_ | refine BQ.here ?_ | refine BQ.there rfl ?_ | refine SQ.ret ?_ | refine SQ.exit ?_ | refine AC.ret ?_ | refine AC.exit ?_ | refine AC.skip ?_ | (refine AR.split rfl (fun h => ?_) (fun h => ?_) <;> rw [h]) | (refine AC.cond rfl (fun h => ?_) (fun h => ?_) <;> rw [h]) | refine FQ.ret rfl rfl ?_ | refine FQ.normal rfl rfl ?_)
    all_goals rfl)).mono fun e w' he => ?_
  obtain ⟨v, s, ρ, a, rfl, rfl, hs⟩ := he
  exact ⟨rfl, hs.bl⟩
set_option maxRecDepth 100000 in
set_option maxHeartbeats 1000000 in
theorem qt_rank (l : List Bk) (n k : Nat) (b : Int) (hn : n ≤ 900) (hd : DB (l.map Bk.e) k b) (v : Int) (r hi : Nat) (y : Eb) (hr : rk v (sureE (l.map Bk.e)) = r) (hy : (l.map Bk.e)[0]? = some y) (hhi : r + (2 ^ y.lv - 1) = hi) (w : World) (A : Option Addr) (c : Nat) (h : BL w A n c l) :
    Calls Tryz.prog 146 #[.slice A n c, .int .i64 v] w (fun e w' => e = .returned (.tuple #[.agg #[.int .i64 ((r : Nat)), .int .i64 1, .int .i64 (midI ((r : Nat)) ((hi : Nat))), .int .i64 1, .int .i64 ((hi : Nat)), .int .i64 1], .int .i64 0]) ∧ Below w.heap.size w w') := by
  have hl := h.len
  obtain ⟨S, hS⟩ : ∃ S, sureE (l.map Bk.e) = S := ⟨_, rfl⟩
  obtain ⟨N, hN⟩ : ∃ N, S.length = N := ⟨_, rfl⟩
  have hSure := fun (w : World) (A : Option Addr) (c : Nat) (h : BL w A n c l) => qs_sure l n k b hn hd w A c h
  rw [hS, hN] at hSure
  rw [hS] at hr
  have hSa : Asc S ∧ N ≤ 900 := by
    rw [← hN, ← hS]
    match hm : l.map Bk.e with
    | [] => exact ⟨List.Pairwise.nil, Nat.zero_le _⟩
    | e :: r =>
      have hd' := hd
      rw [hm] at hd'
      have := sureI_ok (y := e) (r := r) (hd'.ok e List.mem_cons_self) (fun x hx => hd'.ok x (List.mem_cons_of_mem _ hx)) hd'.tot r.length
      rw [sureI_all (Nat.le_refl _)] at this
      exact ⟨this.1, this.2.2⟩
  refine (fun_bl tblOK mixedP Tryz.func146 rfl (fun s => [s, .int .i64 v]) h [.slice (some ⟨0, 0, none⟩) n 0, .int .i64 v] rfl (fun _ => rfl) 54 [(0, .slice (some ⟨0, 0, none⟩) n 0), (1, .int .i64 v)] rfl rfl (by kernel_rfl) rfl rfl (fun uu st => uu = .tuple #[.agg #[.int .i64 ((r : Nat)), .int .i64 1, .int .i64 (midI ((r : Nat)) ((hi : Nat))), .int .i64 1, .int .i64 ((hi : Nat)), .int .i64 1], .int .i64 0]) (by
    obtain ⟨x, hx, rfl⟩ : ∃ x, l[0]? = some x ∧ x.e = y := by rw [List.getElem?_map] at hy; cases hq : l[0]? with
      | none => rw [hq] at hy; cases hy
      | some x => rw [hq] at hy; cases hy; exact ⟨x, rfl, rfl⟩
    have hn0 : 0 < n := by rw [← hl]; exact (List.getElem?_eq_some_iff.1 hx).1
    have hxe : x.e ∈ l.map Bk.e := List.mem_of_getElem? hy
    have hlv := (hd.vb.rng _ hxe).2
    have hp := pow_le_tot hxe
    have ht := hd.tot
    have hp1 := Nat.two_pow_pos x.e.lv
    have hrN : r ≤ N := by rw [← hr, ← hN]; exact rk_le v S
    have u1 : IntKind.u64.wrap ((x.e.lv : Nat) : Int) = ((x.e.lv : Nat) : Int) := by rw [wu64]; omega
    have hsh := shl1 hlv
    have w1 : IntKind.i64.wrap (((r : Nat) : Int) + ((2 ^ x.e.lv : Nat) : Int)) = ((r + 2 ^ x.e.lv : Nat) : Int) := by rw [IntWalk.i64_in _ (by omega)]; rfl
    have w2 : IntKind.i64.wrap (((r + 2 ^ x.e.lv : Nat) : Int) - 1) = ((hi : Nat) : Int) := by rw [IntWalk.i64_in _ (by omega)]; omega
    have z0 : ((0 : Int) != 0) = false := rfl
    have z1 : ((n : Int) == 0) = false := by rw [beq_eq_false_iff_ne]; omega
    repeat' (first | rw [z0] | rw [z1] | rw [u1] | rw [hsh] | rw [w1] | rw [w2] | refine AR.auto rfl ?_ | refine AR.man (AOk.callSF (fun s => .tuple #[.agg #[.int .i64 ((N : Nat)), s], .int .i64 0]) 7 N S (σ := [(0, .view 5 (bkQL l)), (1, .deep (entF l))]) (vs := [.slice (some ⟨0, 0, none⟩) n 0]) hN (fun B ρ w hB hσ => ⟨fpE l, fun g hg => ⟨1, _, List.mem_cons_of_mem _ List.mem_cons_self, fun h => h, by obtain ⟨b, hb, h⟩ := hg; exact (box_deep_at (hσ 1 _ (List.mem_cons_of_mem _ List.mem_cons_self)) b hb).2 g h⟩, by obtain ⟨A, c', h1, h2⟩ := bl_of hσ rfl rfl hl; show Calls _ _ #[rC ρ (.slice (some ⟨0, 0, none⟩) n 0)] _ _; rw [h1]; exact hSure w A c' h2⟩) ent198 rfl rfl rfl (fun n b h => by simp at h; rcases h with ⟨rfl, rfl⟩ | ⟨rfl, rfl⟩ <;> rfl) rfl (fun _ => rfl) rfl) rfl rfl rfl ?_ | refine AR.man (AOk.callV (σ := [(7, .deep (sumF S))]) (vs := [.agg #[.int .i64 ((N : Nat)), .slice (some ⟨7, 0, none⟩) N 0], .int .i64 v]) (v := .tuple #[.agg #[.int .i64 ((r : Nat)), .int .i64 1, .int .i64 (midI ((r : Nat)) ((r : Nat))), .int .i64 1, .int .i64 ((r : Nat)), .int .i64 1], .int .i64 0]) (fun B ρ w hB hσ => by show Calls _ _ #[.agg #[_, rC ρ (.slice (some ⟨7, 0, none⟩) N 0)], _] _ _; rw [plAd_slice]; have h9 := (box_deep_at (hσ 7 _ List.mem_cons_self)).1; rw [hN] at h9; exact qh_rank S N v r hN hSa.2 hSa.1 hr w _ _ h9) ent199 rfl rfl rfl (fun n b h => by simp at h; obtain ⟨rfl, rfl⟩ := h; rfl) rfl) rfl rfl rfl ?_ | refine AR.man (okb_idx (A0 := 0) (i := 0) rfl rfl rfl rfl (nonE_bkv 5 (by omega)) hn0) rfl rfl rfl ?_ | refine AR.man (ok_ld3 (A0 := 0) (u := ((x.e.lv : Nat) : Int)) rfl rfl rfl (by show (bkQL l)[_]? = _; rw [show 0 + 0 * 5 + 2 = 0 * 5 + 2 from (by omega), bkQL_at l 0 2 x hx (by decide)]; rfl)) rfl rfl rfl ?_ | refine AR.man (ok_qh_whole (lo := r) (hi := hi) (by omega) rfl rfl rfl) rfl rfl rfl ?_ | refine AR.nil ?_ | refine KF.mk ?_ | refine KT.mk (by kernel_rfl) ?_ | refine SQ.normal ?_ | refine AC.seq ?_ | refine AC.regF ?_ | refine AC.regT ?_ | refine AC.condT rfl ?_ | refine AC.condF rfl ?_ | refine AC.block ?_ | refine BQ.normal ?_ | refine BQ.ret ?_ | refine BQ.here ?_ | refine BQ.there rfl ?_ | refine SQ.ret ?_ | refine SQ.exit ?_ | refine AC.ret ?_ | refine AC.exit ?_ | refine AC.skip ?_ | (refine AR.split rfl (fun h => ?_) (fun h => ?_) <;> rw [h]) | (refine AC.cond rfl (fun h => ?_) (fun h => ?_) <;> rw [h]) | refine FQ.ret rfl rfl ?_ | refine FQ.normal rfl rfl ?_)
    all_goals rfl)).mono fun e w' he => ?_
  obtain ⟨v, s, ρ, a, rfl, rfl, hs⟩ := he
  exact ⟨rfl, hs.bl⟩
set_option maxRecDepth 100000 in
set_option maxHeartbeats 1000000 in
theorem qt_quant0 (l : List Bk) (n k : Nat) (b : Int) (hn : n ≤ 900) (hd : DB (l.map Bk.e) k b) (p q : Nat) (q1 : 1 ≤ q) (q2 : q ≤ 1000) (p2 : p ≤ q) (hr : sureE (l.map Bk.e) = []) (w : World) (A : Option Addr) (c : Nat) (h : BL w A n c l) :
    Calls Tryz.prog 147 #[.slice A n c, .int .i64 ((p : Nat)), .int .i64 ((q : Nat))] w (fun e w' => e = .returned (.tuple #[.int .i64 0, .int .i64 7]) ∧ Below w.heap.size w w') := by
  have hl := h.len
  obtain ⟨S, hS⟩ : ∃ S, sureE (l.map Bk.e) = S := ⟨_, rfl⟩
  obtain ⟨N, hN⟩ : ∃ N, S.length = N := ⟨_, rfl⟩
  have hSure := fun (w : World) (A : Option Addr) (c : Nat) (h : BL w A n c l) => qs_sure l n k b hn hd w A c h
  rw [hS, hN] at hSure
  rw [hS] at hr
  have hSa : Asc S ∧ N ≤ 900 := by
    rw [← hN, ← hS]
    match hm : l.map Bk.e with
    | [] => exact ⟨List.Pairwise.nil, Nat.zero_le _⟩
    | e :: r =>
      have hd' := hd
      rw [hm] at hd'
      have := sureI_ok (y := e) (r := r) (hd'.ok e List.mem_cons_self) (fun x hx => hd'.ok x (List.mem_cons_of_mem _ hx)) hd'.tot r.length
      rw [sureI_all (Nat.le_refl _)] at this
      exact ⟨this.1, this.2.2⟩
  refine (fun_bl tblOK mixedP Tryz.func147 rfl (fun s => [s, .int .i64 ((p : Nat)), .int .i64 ((q : Nat))]) h [.slice (some ⟨0, 0, none⟩) n 0, .int .i64 ((p : Nat)), .int .i64 ((q : Nat))] rfl (fun _ => rfl) 24 [(0, .slice (some ⟨0, 0, none⟩) n 0), (1, .int .i64 ((p : Nat))), (2, .int .i64 ((q : Nat)))] rfl rfl (by kernel_rfl) rfl rfl (fun uu st => uu = .tuple #[.int .i64 0, .int .i64 7]) (by
    subst hr
    subst hN
    have z0 : ((0 : Int) != 0) = false := rfl
    repeat' (first | rw [z0] | refine AR.auto rfl ?_ | refine AR.man (AOk.callSF (fun s => .tuple #[.agg #[.int .i64 ((0 : Nat)), s], .int .i64 0]) 7 0 [] (σ := [(0, .view 5 (bkQL l)), (1, .deep (entF l))]) (vs := [.slice (some ⟨0, 0, none⟩) n 0]) rfl (fun B ρ w hB hσ => ⟨fpE l, fun g hg => ⟨1, _, List.mem_cons_of_mem _ List.mem_cons_self, fun h => h, by obtain ⟨b, hb, h⟩ := hg; exact (box_deep_at (hσ 1 _ (List.mem_cons_of_mem _ List.mem_cons_self)) b hb).2 g h⟩, by obtain ⟨A, c', h1, h2⟩ := bl_of hσ rfl rfl hl; show Calls _ _ #[rC ρ (.slice (some ⟨0, 0, none⟩) n 0)] _ _; rw [h1]; exact hSure w A c' h2⟩) ent198 rfl rfl rfl (fun n b h => by simp at h; rcases h with ⟨rfl, rfl⟩ | ⟨rfl, rfl⟩ <;> rfl) rfl (fun _ => rfl) rfl) rfl rfl rfl ?_ | refine AR.man (AOk.callV (σ := [(7, .deep (sumF []))]) (vs := [.agg #[.int .i64 ((0 : Nat)), .slice (some ⟨7, 0, none⟩) 0 0], .int .i64 ((p : Nat)), .int .i64 ((q : Nat))]) (v := .tuple #[.int .i64 0, .int .i64 7]) (fun B ρ w hB hσ => by show Calls _ _ #[.agg #[_, rC ρ (.slice (some ⟨7, 0, none⟩) 0 0)], _, _] _ _; rw [plAd_slice]; have h9 := (box_deep_at (hσ 7 _ List.mem_cons_self)).1; exact qh_quant0 p q q1 q2 p2 w _ _ h9) ent200 rfl rfl rfl (fun n b h => by simp at h; obtain ⟨rfl, rfl⟩ := h; rfl) rfl) rfl rfl rfl ?_ | refine AR.nil ?_ | refine KF.mk ?_ | refine KT.mk (by kernel_rfl) ?_ | refine SQ.normal ?_ | refine AC.seq ?_ | refine AC.regF ?_ | refine AC.regT ?_ | refine AC.condT rfl ?_ | refine AC.condF rfl ?_ | refine AC.block ?_ | refine BQ.normal ?_ | refine BQ.ret ?_ | refine BQ.here ?_ | refine BQ.there rfl ?_ | refine SQ.ret ?_ | refine SQ.exit ?_ | refine AC.ret ?_ | refine AC.exit ?_ | refine AC.skip ?_ | (refine AR.split rfl (fun h => ?_) (fun h => ?_) <;> rw [h]) | (refine AC.cond rfl (fun h => ?_) (fun h => ?_) <;> rw [h]) | refine FQ.ret rfl rfl ?_ | refine FQ.normal rfl rfl ?_)
    all_goals rfl)).mono fun e w' he => ?_
  obtain ⟨v, s, ρ, a, rfl, rfl, hs⟩ := he
  exact ⟨rfl, hs.bl⟩
set_option maxRecDepth 100000 in
set_option maxHeartbeats 1000000 in
theorem qt_quant (l : List Bk) (n k : Nat) (b : Int) (hn : n ≤ 900) (hd : DB (l.map Bk.e) k b) (p q : Nat) (u : Int) (q1 : 1 ≤ q) (q2 : q ≤ 1000) (p2 : p ≤ q) (hr : 0 < (sureE (l.map Bk.e)).length) (hu : (sureE (l.map Bk.e))[tgt p (sureE (l.map Bk.e)).length q - 1]? = some u) (w : World) (A : Option Addr) (c : Nat) (h : BL w A n c l) :
    Calls Tryz.prog 147 #[.slice A n c, .int .i64 ((p : Nat)), .int .i64 ((q : Nat))] w (fun e w' => e = .returned (.tuple #[.int .i64 u, .int .i64 0]) ∧ Below w.heap.size w w') := by
  have hl := h.len
  obtain ⟨S, hS⟩ : ∃ S, sureE (l.map Bk.e) = S := ⟨_, rfl⟩
  obtain ⟨N, hN⟩ : ∃ N, S.length = N := ⟨_, rfl⟩
  have hSure := fun (w : World) (A : Option Addr) (c : Nat) (h : BL w A n c l) => qs_sure l n k b hn hd w A c h
  rw [hS, hN] at hSure
  rw [hS] at hr
  have hSa : Asc S ∧ N ≤ 900 := by
    rw [← hN, ← hS]
    match hm : l.map Bk.e with
    | [] => exact ⟨List.Pairwise.nil, Nat.zero_le _⟩
    | e :: r =>
      have hd' := hd
      rw [hm] at hd'
      have := sureI_ok (y := e) (r := r) (hd'.ok e List.mem_cons_self) (fun x hx => hd'.ok x (List.mem_cons_of_mem _ hx)) hd'.tot r.length
      rw [sureI_all (Nat.le_refl _)] at this
      exact ⟨this.1, this.2.2⟩
  refine (fun_bl tblOK mixedP Tryz.func147 rfl (fun s => [s, .int .i64 ((p : Nat)), .int .i64 ((q : Nat))]) h [.slice (some ⟨0, 0, none⟩) n 0, .int .i64 ((p : Nat)), .int .i64 ((q : Nat))] rfl (fun _ => rfl) 24 [(0, .slice (some ⟨0, 0, none⟩) n 0), (1, .int .i64 ((p : Nat))), (2, .int .i64 ((q : Nat)))] rfl rfl (by kernel_rfl) rfl rfl (fun uu st => uu = .tuple #[.int .i64 u, .int .i64 0]) (by
    rw [hS] at hu
    rw [hN] at hr hu
    have z0 : ((0 : Int) != 0) = false := rfl
    repeat' (first | rw [z0] | refine AR.auto rfl ?_ | refine AR.man (AOk.callSF (fun s => .tuple #[.agg #[.int .i64 ((N : Nat)), s], .int .i64 0]) 7 N S (σ := [(0, .view 5 (bkQL l)), (1, .deep (entF l))]) (vs := [.slice (some ⟨0, 0, none⟩) n 0]) hN (fun B ρ w hB hσ => ⟨fpE l, fun g hg => ⟨1, _, List.mem_cons_of_mem _ List.mem_cons_self, fun h => h, by obtain ⟨b, hb, h⟩ := hg; exact (box_deep_at (hσ 1 _ (List.mem_cons_of_mem _ List.mem_cons_self)) b hb).2 g h⟩, by obtain ⟨A, c', h1, h2⟩ := bl_of hσ rfl rfl hl; show Calls _ _ #[rC ρ (.slice (some ⟨0, 0, none⟩) n 0)] _ _; rw [h1]; exact hSure w A c' h2⟩) ent198 rfl rfl rfl (fun n b h => by simp at h; rcases h with ⟨rfl, rfl⟩ | ⟨rfl, rfl⟩ <;> rfl) rfl (fun _ => rfl) rfl) rfl rfl rfl ?_ | refine AR.man (AOk.callV (σ := [(7, .deep (sumF S))]) (vs := [.agg #[.int .i64 ((N : Nat)), .slice (some ⟨7, 0, none⟩) N 0], .int .i64 ((p : Nat)), .int .i64 ((q : Nat))]) (v := .tuple #[.int .i64 u, .int .i64 0]) (fun B ρ w hB hσ => by show Calls _ _ #[.agg #[_, rC ρ (.slice (some ⟨7, 0, none⟩) N 0)], _, _] _ _; rw [plAd_slice]; have h9 := (box_deep_at (hσ 7 _ List.mem_cons_self)).1; rw [hN] at h9; exact qh_quant S N p q u hN hSa.2 hr hSa.1 q1 q2 p2 hu w _ _ h9) ent200 rfl rfl rfl (fun n b h => by simp at h; obtain ⟨rfl, rfl⟩ := h; rfl) rfl) rfl rfl rfl ?_ | refine AR.nil ?_ | refine KF.mk ?_ | refine KT.mk (by kernel_rfl) ?_ | refine SQ.normal ?_ | refine AC.seq ?_ | refine AC.regF ?_ | refine AC.regT ?_ | refine AC.condT rfl ?_ | refine AC.condF rfl ?_ | refine AC.block ?_ | refine BQ.normal ?_ | refine BQ.ret ?_ | refine BQ.here ?_ | refine BQ.there rfl ?_ | refine SQ.ret ?_ | refine SQ.exit ?_ | refine AC.ret ?_ | refine AC.exit ?_ | refine AC.skip ?_ | (refine AR.split rfl (fun h => ?_) (fun h => ?_) <;> rw [h]) | (refine AC.cond rfl (fun h => ?_) (fun h => ?_) <;> rw [h]) | refine FQ.ret rfl rfl ?_ | refine FQ.normal rfl rfl ?_)
    all_goals rfl)).mono fun e w' he => ?_
  obtain ⟨v, s, ρ, a, rfl, rfl, hs⟩ := he
  exact ⟨rfl, hs.bl⟩
end Go.Proofs.YtbageimconenlaaGreat
