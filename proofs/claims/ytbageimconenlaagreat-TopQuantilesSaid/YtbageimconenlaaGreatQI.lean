/- Lists of blocks: built, passed on, given back. | Lists of blocks: cut, put together, written. | Blocks: one more block; too many of a level become one of the next (plain). -/
import Derived.Test.YtbageimconenlaaGreatQD
namespace Go.Proofs.YtbageimconenlaaGreat
open Go.RowKit En
set_option linter.unusedVariables false
def ownF (B0 : Nat) (vs : List Int) (p : Pl) (w : World) : Prop := SL w (plAd p) vs.length p.cap 3 (enL 0 vs) ∧ ∀ g, blkOf (plAd p) vs.length g → p.fp g ∧ B0 ≤ g
def entK (B0 : Nat) (l0 l : List Bk) (p : Pl) (w : World) : Prop := entF l p w ∧ (∀ g, fpE l g → B0 ≤ g ∨ fpE l0 g) ∧ B0 ≤ w.heap.size
theorem box_entK {B B0 : Nat} {ρ : Nat → Pl} {w : World} {i : Nat} {l0 l : List Bk} (h : ∀ b ∈ l, SL w b.A b.e.vs.length b.c 3 (enL 0 b.e.vs)) (hρ : ρ i = plE l) (hH : ∀ g, fpE l g → B0 ≤ g ∨ fpE l0 g) (hB : B0 ≤ w.heap.size) : BoxOK B ρ w i (.deep (entK B0 l0 l)) := by
  have := box_entF (B := B) h hρ
  unfold BoxOK at this ⊢
  exact ⟨this.1, fun w' hs hk => ⟨this.2 w' hs hk, hH, Nat.le_trans hB hs⟩⟩
theorem box_deep_at {B : Nat} {ρ : Nat → Pl} {w : World} {i : Nat} {F : Pl → World → Prop} (h : BoxOK B ρ w i (.deep F)) : F (ρ i) w := h.2 w (Nat.le_refl _) fun _ _ => rfl
namespace En
section
variable {P : Program}
theorem fun_bk {tb : (List (Nat × TI))} (hT : TbOK P tb) {f : FuncId} {fn : Func} {c : Code} (hm : P.follows .mixedOrders = true) (hf : P.funcs[f]? = some fn) (hb : fn.body = some c) (G : Value → List Value) {A : Option Addr} {n cp : Nat} {w : World} {l : List Bk} (h : BL w A n cp l)
    (vs : List Value) (hvs : G (.slice (some ⟨0, 0, none⟩) n 0) = vs) (hG : ∀ ρ, (G (.slice (some ⟨0, 0, none⟩) n 0)).map (rV ρ) = G (rC ρ (.slice (some ⟨0, 0, none⟩) n 0)))
    (nt : Nat) (tm : List (Nat × Value)) (htm : tmOf vs 0 = tm) (hnt : vs.length + (fn.ntmps - vs.length) = nt) (hd : dcode nt c = true) (hnb : allN1 [1, 0] vs = true) (htu : noTup vs = true)
    (T : Nat → Value → St → Prop) (hac : ∀ B0, AC P tb 2 c ⟨tm, [(0, .view 5 (bkQL l)), (1, .deep (entK B0 l l))], [1, 0], nt⟩ (FQ tb fn.results.toList (T B0))) :
    Calls P f (G (.slice A n cp)).toArray w (fun e w' => ∃ v s ρ a, T w.heap.size v s ∧ e = .returned (rV ρ v) ∧ Sat ⟨w.heap.size, w, fun i => if i = 0 then plOf A cp else plE l, 2⟩ ρ s a w') := by
  have := fun_fin hT (I := 2) hm hf hb vs [(0, .view 5 (bkQL l)), (1, .deep (entK w.heap.size l l))] (fun i => if i = 0 then plOf A cp else plE l) w nt tm htm hnt hd [1, 0] rfl hnb htu (fun m b hmb => by
    rw [lk_cons] at hmb
    split at hmb
    · rename_i e
      subst e
      cases hmb
      exact ⟨by omega, box_bkv h.sl rfl, fun v hv => allNC_spec (nb_bkQ _ l) v hv, fun hw => hw⟩
    · rw [lk_cons] at hmb
      split at hmb
      · rename_i e
        subst e
        cases hmb
        exact ⟨by omega, box_entK h.es rfl (fun g hg => .inr hg) (Nat.le_refl _), fun v hv => absurd hv List.not_mem_nil, fun hw => hw⟩
      · cases hmb) (T w.heap.size) (hac _)
  rw [← hvs, hG, plOf_slice (ρ := fun i => if i = 0 then plOf A cp else plE l) (A := A) (c := cp) (i := 0) rfl] at this
  exact this
theorem AOk.callOD {s : St} {o : Oper} {c : Call} {g : FuncId} (F : Value → Value) (q n B0 : Nat) (vs' : List Int) {vs : List Value} {σ : List (Nat × Box)} (hn : vs'.length = n)
    (C : ∀ (B : Nat) (ρ : (Nat → Pl)) (w : World), B ≤ w.heap.size → (∀ n b, (n, b) ∈ σ → BoxOK B ρ w n b) → B0 ≤ w.heap.size ∧ Calls P g (vs.map (rV ρ)).toArray w (fun e' w' => ∃ A c', e' = .returned (F (.slice A n c')) ∧ OwnK w' w.heap.size 239 3 (.slice A n c') n (enL 0 vs') ∧ Below w.heap.size w w'))
    (hent : Enters P g) (ho : o.op = .call c) (hc : c.callee = .value (.func g)) (hargs : evs s c.args.toList = some vs) (hσ : ∀ n b, (n, b) ∈ σ → lk s.σ n = some b) (hq : memB q s.al = false)
    (hF : ∀ ρ, rV ρ (F (.slice (some ⟨q, 0, none⟩) n 0)) = F (rC ρ (.slice (some ⟨q, 0, none⟩) n 0))) (hN : nbV [q] (F (.slice (some ⟨q, 0, none⟩) n 0)) = true) :
    AOk P s o ⟨rq s c.args.toList, σ⟩ ⟨F (.slice (some ⟨q, 0, none⟩) n 0), [], [(q, .deep (ownF B0 vs'))]⟩ := by
  refine .callG hent ho hc hargs hσ (fun n b h => no_mem h) (.inr fun n b h => no_mem h) (fun n b h => ?_) (fun al _ _ => ⟨(nbV_NB hN).mono (fun n hn => by simp at hn ⊢; exact .inl hn), fun n b h => no_mem h, fun n b h v hv => ?_⟩) fun B ρ w al hB hbx _ _ _ => ?_
  · simp at h; rw [h.1]; intro hm; rw [memB_iff.2 hm] at hq; cases hq
  · simp at h
    obtain ⟨rfl, rfl⟩ := h
    cases hv
  · obtain ⟨h0, hC⟩ := C B ρ w hB hbx
    refine hC.mono fun e' w' he => ?_
    obtain ⟨A, c', rfl, hO, hb⟩ := he
    obtain ⟨pl, h1, h2, h3⟩ := own_vec (B := B) (q := q) hO hB (allFC_en _ _) ρ
    obtain ⟨A2, c2, e2, hS⟩ := box_SL (len := n) (k := 3) (cells := enL 0 vs') h2 (fun _ _ h => h) (by decide) (by rw [enL_len, hn]) (allFC_en _ _) rfl
    rw [h1] at e2
    injection e2 with e3 _ e4
    subst e3 e4
    rw [plAd_slice, upd_same] at h1
    injection h1 with e5 _ e6
    have hblk : ∀ g, blkOf (plAd pl) n g → w.heap.size ≤ g := fun g hg => by
      obtain ⟨_, o, ho⟩ := hg
      unfold plAd at ho
      cases hnl : pl.nil with
      | false => rw [hnl] at ho; cases ho; exact h3 hnl
      | true =>
        rw [hnl] at ho
        rcases h2.2 with ⟨_, ⟨_, h4⟩, _⟩ | ⟨h4, _⟩
        · rw [upd_same] at h4
          rw [show (bif true then pl.alt else some ⟨pl.b, pl.o, none⟩) = pl.alt from rfl, h4] at ho; cases ho
        · rw [upd_same, hnl] at h4; cases h4
    have hpa : plAd { pl with fp := blkOf (plAd pl) n } = plAd pl := rfl
    refine ⟨upd ρ q { pl with fp := blkOf (plAd pl) n }, by rw [hF, plAd_slice, upd_same, hpa, e5, show ({ pl with fp := blkOf (plAd pl) n } : Pl).cap = pl.cap from rfl, e6], Eff.newBelow hb ⟨?_, fun w'' hs hk => ?_⟩ fun g hs => hblk g hs⟩
    · rw [upd_same]
      intro g hg
      have hg : blkOf (plAd pl) n g := hg
      rw [e5] at hg
      exact hS.blk_lt hg
    · rw [upd_same] at hk ⊢
      refine ⟨?_, fun g hg => ?_⟩
      · rw [hpa, e5, hn, show ({ pl with fp := blkOf (plAd pl) n } : Pl).cap = pl.cap from rfl, e6]
        exact hS.frame hs fun g hg => hk g (by show blkOf (plAd pl) n g; rw [e5]; exact hg)
      · rw [hpa, hn] at hg
        exact ⟨hg, Nat.le_trans h0 (hblk g hg)⟩
theorem AOk.callBLF {s : St} {o : Oper} {c : Call} {g : FuncId} (G : Value → List Value) (q e n : Nat) (l : List Bk) {b : Box} {v : Value} {F : Pl → World → Prop} (hF : ∀ p w, F p w → entF l p w)
    (C : ∀ (w : World) (A : Option Addr) (c' : Nat), BL w A n c' l → Calls P g (G (.slice A n c')).toArray w (fun e w' => e = .returned v ∧ Below w.heap.size w w'))
    (hent : Enters P g) (ho : o.op = .call c) (hc : c.callee = .value (.func g)) (hargs : evs s c.args.toList = some (G (.slice (some ⟨q, 0, none⟩) n 0))) (hG : ∀ ρ, (G (.slice (some ⟨q, 0, none⟩) n 0)).map (rV ρ) = G (rC ρ (.slice (some ⟨q, 0, none⟩) n 0)))
    (hb : lk s.σ q = some b) (he : lk s.σ e = some (.deep F)) (hbc : b.cells = bkQL l) (hbk : kBox 5 b = true) (hl : l.length = n) (hv : flatV v = true) : AOk P s o ⟨rq s c.args.toList, [(q, b), (e, .deep F)]⟩ ⟨v, [], []⟩ :=
  .callV (fun B ρ w hB hσ => by
    obtain ⟨A, c', h1, h2⟩ := bkv_SL (hσ q _ List.mem_cons_self) hbc hbk hl
    have h3 := hF _ _ (box_deep_at (hσ e _ (List.mem_cons_of_mem _ List.mem_cons_self)))
    rw [hG, h1]
    exact C w A c' ⟨h2, fun b hb => (h3 b hb).1⟩) hent ho hc hargs (fun m b' h => by simp at h; rcases h with ⟨rfl, rfl⟩ | ⟨rfl, rfl⟩ <;> assumption) hv
theorem RenS.bind {I : Nat} {s : St} {S S' : St → Prop} (h : RenS I s S) (k : ∀ s', S s' → RenS I s' S') : RenS I s S' :=
  ⟨fun c ρ a w hc hs => by
    obtain ⟨ρ1, s1, h1, h2, h3⟩ := h.out c ρ a w hc hs
    obtain ⟨ρ2, s2, h4, h5, h6⟩ := (k s1 h1).out c ρ1 a w hc h3
    exact ⟨ρ2, s2, h4, h5.trans h2, h6⟩⟩
end
end En
def bkN (q : Nat) (m : Eb) : List Value := [.int .i64 m.t, .int .i64 m.last, .int .i64 (m.lv : Nat), .int .i64 (m.vs.length : Nat), .slice (some ⟨q, 0, none⟩) m.vs.length 0]
theorem fpE_mid {lA lB : List Bk} {x : Bk} {g : Nat} (h : fpE (lA ++ x :: lB) g) : blkOf x.A x.e.vs.length g ∨ fpE (lA ++ lB) g := by
  obtain ⟨b, hb, hg⟩ := h
  rcases List.mem_append.1 hb with h | h
  · exact .inr ⟨b, List.mem_append.2 (.inl h), hg⟩
  · rcases List.mem_cons.1 h with h | h
    · subst h; exact .inl hg
    · exact .inr ⟨b, List.mem_append.2 (.inr h), hg⟩
theorem rL_quote (ρ ρ' : Nat → Pl) (q : Nat) (m : Eb) (lA lB : List Bk) : rL ρ' (bkQL (lA ++ ⟨m, plAd (ρ q), (ρ q).cap⟩ :: lB)) = rL ρ (bkQL lA ++ bkN q m ++ bkQL lB) := by
  have h : ∀ (ρ : Nat → Pl) (a b : List Value), rL ρ (a ++ b) = rL ρ a ++ rL ρ b := fun ρ a b => List.map_append
  rw [bkQL_app, show bkQL (⟨m, plAd (ρ q), (ρ q).cap⟩ :: lB) = bkQ ⟨m, plAd (ρ q), (ρ q).cap⟩ ++ bkQL lB from rfl, h, h, h, h, rL_bkQ, rL_bkQ, rL_bkQ, rL_bkQ, List.append_assoc]
  congr 2
theorem RenS.quote {I nt o q d e : Nat} {tm : List (Nat × Value)} {al : List Nat} {B0 : Nat} {l0 lA lB : List Bk} {m : Eb} {S : St → Prop} {Fd : Pl → World → Prop}
    (hFd : ∀ p w, Fd p w → entK B0 l0 (lA ++ lB) p w) (hoq : Nat.beq o q = false) (hod : Nat.beq o d = false) (hqd : Nat.beq q d = false) (he : memB e al = false) (hI : Nat.ble I e = true) {C : List Value} (hC : C = bkQL lA ++ bkN q m ++ bkQL lB)
    (hS : ∀ x : Bk, x.e = m → S ⟨tm, [(o, .vec 273 5 (bkQL (lA ++ x :: lB))), (e, .deep (entK B0 l0 (lA ++ x :: lB)))], e :: al, nt⟩) :
    RenS I ⟨tm, [(o, .vec 273 5 C), (q, .deep (ownF B0 m.vs)), (d, .deep Fd)], al, nt⟩ S := by
  subst hC
  have noq : o ≠ q := fun h => by subst h; simp at hoq
  have nod : o ≠ d := fun h => by subst h; simp at hod
  have nqd : q ≠ d := fun h => by subst h; simp at hqd
  refine ⟨fun c ρ a w hc hs => ?_⟩
  have ko : En.lk [(o, Box.vec 273 5 (bkQL lA ++ bkN q m ++ bkQL lB)), (q, .deep (ownF B0 m.vs)), (d, .deep Fd)] o = some (.vec 273 5 (bkQL lA ++ bkN q m ++ bkQL lB)) := by rw [lk_cons, if_pos rfl]
  have kq : En.lk [(o, Box.vec 273 5 (bkQL lA ++ bkN q m ++ bkQL lB)), (q, .deep (ownF B0 m.vs)), (d, .deep Fd)] q = some (.deep (ownF B0 m.vs)) := by rw [lk_cons, if_neg noq, lk_cons, if_pos rfl]
  have kd : En.lk [(o, Box.vec 273 5 (bkQL lA ++ bkN q m ++ bkQL lB)), (q, .deep (ownF B0 m.vs)), (d, .deep Fd)] d = some (.deep Fd) := by rw [lk_cons, if_neg nod, lk_cons, if_neg nqd, lk_cons, if_pos rfl]
  obtain ⟨bo, oal, onb⟩ := hs.bx _ _ ko
  obtain ⟨bq, qal, _⟩ := hs.bx _ _ kq
  obtain ⟨bd, dal, _⟩ := hs.bx _ _ kd
  have fq := box_deep_at bq
  obtain ⟨fd, fh, fb⟩ := hFd _ _ (box_deep_at bd)
  have nal : ∀ n, n ∈ al → n ≠ e := fun n hn h => by subst h; rw [memB_iff.2 hn] at he; cases he
  have noe : o ≠ e := nal o oal
  let x : Bk := ⟨m, plAd (ρ q), (ρ q).cap⟩
  let ρ' : Nat → Pl := upd ρ e (plE (lA ++ x :: lB))
  have hag : agr al ρ ρ' := fun n hn => (upd_other ρ _ (nal n hn)).symm
  have hfp : ∀ g, fpE (lA ++ x :: lB) g → (ρ q).fp g ∨ (ρ d).fp g := fun g hg => by
    rcases fpE_mid hg with h | ⟨b, hb, h⟩
    · exact .inl (fq.2 g h).1
    · exact .inr ((fd b hb).2 g h)
  refine ⟨ρ', _, hS x rfl, rfl, hs.df, hs.nt, hs.bl, hs.hB, fun n hn => ?_, fun n hn => List.mem_cons_of_mem _ (hs.al n hn), fun t v ht => ?_, fun n b hb => ?_, fun n k b b' hb hb' hne hw => ?_⟩
  · rw [← hs.fx n hn]
    refine upd_other ρ _ ?_
    intro h
    have := Nat.le_of_ble_eq_true hI
    rw [hc] at hn; omega
  · obtain ⟨h1, h2⟩ := hs.tm t v ht
    exact ⟨by rw [h1, h2 ρ ρ' hag], h2.mono fun n hn => List.mem_cons_of_mem _ hn⟩
  · rw [lk_cons] at hb
    split at hb
    · rename_i h
      subst h
      cases hb
      refine ⟨?_, List.mem_cons_of_mem _ oal, fun v hv => ?_⟩
      · have er : ρ' o = ρ o := upd_other ρ _ noe
        have e1 := rL_quote ρ ρ' q m lA lB
        have e2 : (bkQL (lA ++ x :: lB)).length = (bkQL lA ++ bkN q m ++ bkQL lB).length := by
          have := congrArg List.length e1
          unfold rL at this
          rwa [List.length_map, List.length_map] at this
        unfold BoxOK at bo ⊢
        rw [er]
        refine ⟨bo.1, ?_⟩
        rcases bo.2 with ⟨h1, h2, h3⟩ | ⟨h1, h2, cur, h3, h4, h5, h6⟩
        · exfalso
          have := congrArg List.length h3
          simp [bkN] at this
        · exact .inr ⟨h1, h2, cur, h3, h4, by rw [e2]; exact h5, by rw [e2, e1]; exact h6⟩
      · exact allNC_spec (nb_bkQ _ _) v hv
    · rw [lk_cons] at hb
      split at hb
      · rename_i h
        subst h
        cases hb
        refine ⟨box_entK (fun b hb => ?_) (upd_same _ _ _) (fun g hg => ?_) fb, List.mem_cons_self, fun v hv => absurd hv List.not_mem_nil⟩
        · rcases List.mem_append.1 hb with h | h
          · exact (fd b (List.mem_append.2 (.inl h))).1
          · rcases List.mem_cons.1 h with h | h
            · subst h; exact fq.1
            · exact (fd b (List.mem_append.2 (.inr h))).1
        · rcases fpE_mid hg with h | h
          · exact .inl (fq.2 g h).2
          · exact fh g h
      · cases hb
  · rw [lk_cons] at hb hb'
    split at hb
    · rename_i h
      subst h
      cases hb
      split at hb'
      · rename_i h; exact absurd h hne
      · rw [lk_cons] at hb'
        split at hb'
        · rename_i h
          subst h
          cases hb'
          have er : ρ' o = ρ o := upd_other ρ _ noe
          intro hh
          rw [er] at hh hw
          have hh : (ρ' e).fp (ρ o).b := hh
          rw [show ρ' e = plE (lA ++ x :: lB) from upd_same _ _ _] at hh
          rcases hfp _ hh with h | h
          · exact hs.ap o q _ _ ko kq noq hw h
          · exact hs.ap o d _ _ ko kd nod hw h
        · cases hb'
    · rw [lk_cons] at hb
      split at hb
      · cases hb; exact absurd hw (fun h => h)
      · cases hb
end Go.Proofs.YtbageimconenlaaGreat
namespace Go.Proofs.YtbageimconenlaaGreat
open Go.RowKit En
set_option linter.unusedVariables false
theorem sizeOf273w (w : World) : (Go.sizeOf 273).run Tryz.prog w = .ok 5 w := by
  obtain ⟨ie, z, hie, h1, _⟩ := info273x
  simp [sizeOf, typeInfo, program, Sem.run, hie, h1]
section
variable {s : St} {o : Oper} {c : Call}
theorem vec_cap {B : Nat} {ρ : Nat → Pl} {w : World} {D n : Nat} {C : List Value} (h : BoxOK B ρ w D (.vec 273 5 C)) (hC : C.length = n * 5) (hn : 0 < n) : n ≤ (ρ D).cap ∧ (ρ D).nil = false := by
  rcases h.2 with ⟨_, _, h3⟩ | ⟨h1, _, cur, _, _, h5, _⟩
  · rw [h3] at hC; simp at hC; omega
  · exact ⟨by omega, h1⟩
theorem okb_sr {D n i : Nat} {C : List Value} {x y : Operand} (ho : o.op = .slice 52 x (some y) none none) (hx : ev s x = some (.slice (some ⟨D, 0, none⟩) n 0)) (hy : ev s y = some (.int .i64 (i : Nat))) (hb : En.lk s.σ D = some (.vec 273 5 C)) (hC : C.length = n * 5) (hi : i < n) :
    AOk Tryz.prog s o ⟨rq s [x, y], [(D, .vec 273 5 C)]⟩ ⟨.slice (some ⟨D, i * 5, none⟩) (n - i) i, [], []⟩ := by
  refine .quiet fun B => ⟨Does.value (fun al hr => ?_) fun ρ a w hm => ?_, ⟨fun t v h => rq_in h, fun n b' h => ?_⟩, rfl, rfl⟩
  · exact NB.slice (hr.σ D _ List.mem_cons_self).1
  · have hbx := hm.σ D _ List.mem_cons_self
    obtain ⟨hcap, hnil⟩ := vec_cap hbx hC (by omega)
    have hax := ev_eval hm (x := x) (by simp) hx
    have hay := ev_eval hm (x := y) (by simp) hy
    have hxr : rV ρ (.slice (some ⟨D, 0, none⟩) n 0) = .slice (some ⟨(ρ D).b, (ρ D).o, none⟩) n (ρ D).cap := by
      show Value.slice (bif (ρ D).nil then (ρ D).alt else some (rA ρ ⟨D, 0, none⟩)) n _ = _
      rw [hnil]; rfl
    have hvr : rV ρ (.slice (some ⟨D, i * 5, none⟩) (n - i) i) = .slice (some ⟨(ρ D).b, (ρ D).o + i * 5, none⟩) (n - i) ((ρ D).cap - i) := by
      show Value.slice (bif (ρ D).nil then (ρ D).alt else some (rA ρ ⟨D, i * 5, none⟩)) _ _ = _
      rw [hnil]; rfl
    have hir : rV ρ (.int .i64 (i : Nat)) = .int .i64 (i : Nat) := rfl
    rw [hxr] at hax
    rw [hir] at hay
    rw [hvr]
    have hel : Tryz.prog.elem 52 = 273 := by kernel_rfl
    have hu : Tryz.prog.underlying 52 = some (.slice (Tryz.prog.elem 52)) := by rw [hel]; exact Tryz.underlying52
    unfold execOp
    simp only [ho, hax, hay, Option.map_some, Option.map_none]
    rw [Sem.run_bind, run_sliceAt_slice (h := hu), run_slice_l (ht := hu) (kl := .i64) (l := (i : Nat)) (h0 := by omega) (h1 := by omega), hel, sizeOf273w]
    have hm1 : ¬ (ρ D).cap = (((i : Nat) : Int)).toNat := by rw [Int.toNat_natCast]; omega
    simp only [Result.andThen_ok, sliced, if_neg hm1, Option.map_some]
    rw [Int.toNat_natCast]
    have e3 : Addr.add ⟨(ρ D).b, (ρ D).o, none⟩ (i * 5) = ⟨(ρ D).b, (ρ D).o + i * 5, none⟩ := by
      rw [add_ptr]
    rw [e3]; rfl
  · simp at h; obtain ⟨rfl, rfl⟩ := h; exact hb
theorem okb_sl {D n i : Nat} {C : List Value} {x y : Operand} (ho : o.op = .slice 52 x none (some y) none) (hx : ev s x = some (.slice (some ⟨D, 0, none⟩) n 0)) (hy : ev s y = some (.int .i64 (i : Nat))) (hb : En.lk s.σ D = some (.vec 273 5 C)) (hC : C.length = n * 5) (hi : i ≤ n) (hn : 0 < n) :
    AOk Tryz.prog s o ⟨rq s [x, y], [(D, .vec 273 5 C)]⟩ ⟨.slice (some ⟨D, 0, none⟩) i 0, [], []⟩ := by
  refine .quiet fun B => ⟨Does.value (fun al hr => ?_) fun ρ a w hm => ?_, ⟨fun t v h => rq_in h, fun n b' h => ?_⟩, rfl, rfl⟩
  · exact NB.slice (hr.σ D _ List.mem_cons_self).1
  · have hbx := hm.σ D _ List.mem_cons_self
    obtain ⟨hcap, hnil⟩ := vec_cap hbx hC hn
    have hax := ev_eval hm (x := x) (by simp) hx
    have hay := ev_eval hm (x := y) (by simp) hy
    have hxr : rV ρ (.slice (some ⟨D, 0, none⟩) n 0) = .slice (some ⟨(ρ D).b, (ρ D).o, none⟩) n (ρ D).cap := by
      show Value.slice (bif (ρ D).nil then (ρ D).alt else some (rA ρ ⟨D, 0, none⟩)) n _ = _
      rw [hnil]; rfl
    have hvr : rV ρ (.slice (some ⟨D, 0, none⟩) i 0) = .slice (some ⟨(ρ D).b, (ρ D).o, none⟩) i (ρ D).cap := by
      show Value.slice (bif (ρ D).nil then (ρ D).alt else some (rA ρ ⟨D, 0, none⟩)) _ _ = _
      rw [hnil]; rfl
    have hir : rV ρ (.int .i64 (i : Nat)) = .int .i64 (i : Nat) := rfl
    rw [hxr] at hax
    rw [hir] at hay
    rw [hvr]
    have hel : Tryz.prog.elem 52 = 273 := by kernel_rfl
    have hu : Tryz.prog.underlying 52 = some (.slice (Tryz.prog.elem 52)) := by rw [hel]; exact Tryz.underlying52
    unfold execOp
    simp only [ho, hax, hay, Option.map_some, Option.map_none]
    rw [Sem.run_bind, run_sliceAt_slice (h := hu), run_slice_h (ht := hu) (kh := .i64) (h := (i : Nat)) (h0 := by omega) (h2 := by omega), hel, sizeOf273w]
    have hm1 : ¬ (ρ D).cap = 0 := by omega
    simp only [Result.andThen_ok, sliced, if_neg hm1, Option.map_some]
    rw [Int.toNat_natCast]
    have e3 : Addr.add ⟨(ρ D).b, (ρ D).o, none⟩ (0 * 5) = ⟨(ρ D).b, (ρ D).o, none⟩ := by
      rw [add_ptr]; simp
    rw [e3]; rfl
  · simp at h; obtain ⟨rfl, rfl⟩ := h; exact hb
theorem okb_app (q : Nat) {D Y oy len m c2 L' : Nat} {b : Box} {C C' news : List Value} {x y : Operand} (hL' : len + m = L') (hlt : len + m < 1000000) (ho : o.op = .call c) (hcal : c.callee = .builtin .append) (hargs : c.args = #[x, y]) (hty : c.argTypes = #[52, 52])
    (hx : ev s x = some (.slice (some ⟨D, 0, none⟩) len 0)) (hy : ev s y = some (.slice (some ⟨Y, oy, none⟩) m c2)) (hD : En.lk s.σ D = some (.vec 273 5 C)) (hY : En.lk s.σ Y = some b) (hq : memB q s.al = false)
    (hCl : len * 5 ≤ C.length) (hn : ∀ j v, news[j]? = some v → b.cells[oy + j]? = some v) (hnl : news.length = m * 5) (h1' : ∀ u ∈ news, oneC u = true) (hC' : C.take (len * 5) ++ news = C') :
    AOk Tryz.prog s o ⟨rq s [x, y], [(D, .vec 273 5 C), (Y, b)]⟩ ⟨.slice (some ⟨q, 0, none⟩) L' 0, [(D, .gone)], [(q, .vec 273 5 C')]⟩ := by
  obtain ⟨ie, z, hie, h1, h2, h3, h4⟩ := info273x
  subst hC' hL'
  refine ⟨fun B => ?_, ⟨fun t v h => rq_in h, fun n b h => ?_⟩, fun n b h => ?_, .inr fun n b h => ?_, fun n b h => ?_⟩
  · exact Does.append (P := Tryz.prog) (B := B) (s := s) (o := o) (c := c) (t := 52) (e := 273) (x := x) (y := y) (es := 5) (bytes := 56) (len := len) (m := m) (q := q) (xs := C.take (len * 5)) (news := news) (up := [(D, .gone)]) (σ := [(D, .vec 273 5 C), (Y, b)]) ho hcal hargs hty Tryz.underlying52 hie h1 h2 h3 h4 (by decide) (.vec hx List.mem_cons_self hCl) (.box hy (List.mem_cons_of_mem _ List.mem_cons_self) hn hnl) h1' (by show len + m ≤ maxLen; unfold maxLen; omega) (by omega)
  · simp at h; rcases h with ⟨rfl, rfl⟩ | ⟨rfl, rfl⟩ <;> assumption
  · simp at h; obtain ⟨rfl, rfl⟩ := h; exact ⟨_, List.mem_cons_self, rfl⟩
  · simp at h; exact h.2
  · simp at h; rw [h.1]; intro hm; rw [memB_iff.2 hm] at hq; cases hq
theorem okb_st {D i : Nat} {C C' vs : List Value} {x y : Operand} (ho : o.op = .store 273 x y) (hx : ev s x = some (.pointer (some ⟨D, i, none⟩))) (hy : ev s y = some (.agg vs.toArray)) (hv : vs.length = 5) (h1' : allOne vs = true) (hb : En.lk s.σ D = some (.vec 273 5 C)) (hi : i + 5 ≤ C.length) (hC : spl C i vs = C') :
    AOk Tryz.prog s o ⟨rq s [x, y], [(D, .vec 273 5 C)]⟩ ⟨undef, [(D, .vec 273 5 C')], []⟩ := by
  obtain ⟨ie, z, hie, h1, _⟩ := info273x
  subst hC
  refine ⟨fun B => ?_, ⟨fun t v h => rq_in h, fun n b h => ?_⟩, fun n b h => ?_, .inl rfl, fun n b h => no_mem h⟩
  · exact Does.store (P := Tryz.prog) (B := B) ho hx hy (v := .agg vs.toArray) (vs := vs) (by cases vs <;> rfl) hb rfl hie (by rw [h1, hv]) h1' (by rw [hv]; exact hi) (by intro h; rw [h] at hv; cases hv)
  · simp at h; obtain ⟨rfl, rfl⟩ := h; exact hb
  · simp at h; obtain ⟨rfl, rfl⟩ := h; exact ⟨_, List.mem_cons_self, rfl⟩
end
theorem one_bkQ (l : List Bk) : ∀ u ∈ bkQL l, oneC u = true := by
  induction l with
  | nil => intro u h; cases h
  | cons b l ih =>
    intro u h
    rcases List.mem_append.1 h with h | h
    · simp only [bkQ, List.mem_cons, List.not_mem_nil, or_false] at h
      rcases h with rfl | rfl | rfl | rfl | rfl <;> rfl
    · exact ih u h
theorem spl_mid : ∀ (a b vs c : List Value), vs.length = b.length → spl (a ++ b ++ c) a.length vs = a ++ vs ++ c
  | [], b, vs, c, h => by
    show spl (b ++ c) 0 vs = vs ++ c
    induction vs generalizing b with
    | nil => cases b with
      | nil => cases c <;> rfl
      | cons _ _ => cases h
    | cons v vs ih =>
      cases b with
      | nil => cases h
      | cons x b => show v :: spl (b ++ c) 0 vs = _; rw [ih b (by simpa using h)]; rfl
  | x :: a, b, vs, c, h => by
    cases vs with
    | nil =>
      cases b with
      | nil => show x :: a ++ [] ++ c = _; rfl
      | cons _ _ => cases h
    | cons v vs => show x :: spl (a ++ b ++ c) a.length (v :: vs) = _; rw [spl_mid a b (v :: vs) c h]; rfl
end Go.Proofs.YtbageimconenlaaGreat
namespace Go.Proofs.YtbageimconenlaaGreat
open Go.RowKit En
set_option linter.unusedVariables false
def mgB (L : Nat) (x y : Eb) : Eb := ⟨y.t, y.last, L + 1, mg x.vs y.vs⟩
def fst (L : Nat) (p : List Eb) : Nat → Nat
  | 0 => 0
  | i + 1 => match p[i]? with
    | some e => if e.lv = L then fst L p i else i + 1
    | none => i + 1
theorem fst_le (L : Nat) (p : List Eb) : ∀ i, fst L p i ≤ i
  | 0 => Nat.le_refl _
  | i + 1 => by
    unfold fst
    split
    · split
      · exact Nat.le_succ_of_le (fst_le L p i)
      · exact Nat.le_refl _
    · exact Nat.le_refl _
theorem fst_lv (L : Nat) (p : List Eb) : ∀ i j e, fst L p i ≤ j → j < i → p[j]? = some e → e.lv = L
  | 0, _, _, _, h, _ => by omega
  | i + 1, j, e, h1, h2, he => by
    unfold fst at h1
    split at h1
    · rename_i e' he'
      split at h1
      · rename_i hl
        by_cases hj : j = i
        · subst hj; rw [he'] at he; cases he; exact hl
        · exact fst_lv L p i j e h1 (by omega) he
      · omega
    · omega
def casc (k : Nat) : Nat → Nat → List Eb → List Eb
  | 0, _, p => p
  | f + 1, L, p => match p.drop (fst L p p.length) with
    | x :: y :: m => if m.length < k then p else casc k f (L + 1) (p.take (fst L p p.length) ++ [mgB L x y]) ++ m
    | _ => p
def cOK (k : Nat) (b : Int) : Nat → Nat → List Eb → Prop
  | 0, _, _ => True
  | f + 1, L, p => match p.drop (fst L p p.length) with
    | x :: y :: m => m.length < k ∨ (((2 ^ (L + 1) : Nat) : Int) ≤ b + 1 ∧ cOK k b f (L + 1) (p.take (fst L p p.length) ++ [mgB L x y]))
    | _ => True
def insE (k : Nat) (es : List Eb) (t v : Int) : List Eb := casc k (es.length + 1) 0 (es ++ [⟨t, v, 0, [v]⟩])
theorem casc_stop {k f L : Nat} {p : List Eb} (h : p.length - fst L p p.length < k + 2) : casc k f L p = p := by
  cases f with
  | zero => rfl
  | succ f =>
    unfold casc
    split
    · rename_i x y m hd
      have := congrArg List.length hd
      rw [List.length_drop] at this
      simp only [List.length_cons] at this
      rw [if_pos (by omega)]
    · rfl
theorem casc_go {k f L : Nat} {p m : List Eb} {x y : Eb} (hd : p.drop (fst L p p.length) = x :: y :: m) (h : k ≤ m.length) : casc k (f + 1) L p = casc k f (L + 1) (p.take (fst L p p.length) ++ [mgB L x y]) ++ m := by
  rw [casc, hd]
  show (if m.length < k then _ else _) = _
  rw [if_neg (by omega)]
theorem cOK_go {k f L : Nat} {b : Int} {p m : List Eb} {x y : Eb} (hd : p.drop (fst L p p.length) = x :: y :: m) (h : k ≤ m.length) (hc : cOK k b (f + 1) L p) : ((2 ^ (L + 1) : Nat) : Int) ≤ b + 1 ∧ cOK k b f (L + 1) (p.take (fst L p p.length) ++ [mgB L x y]) := by
  rw [cOK, hd] at hc
  rcases hc with hc | hc
  · omega
  · exact hc
theorem totE_mid (a c : List Eb) (x y z : Eb) (h : 2 ^ z.lv = 2 ^ x.lv + 2 ^ y.lv) : totE (a ++ z :: c) = totE (a ++ x :: y :: c) := by
  rw [totE_app, totE_app, totE, totE, totE, h]; omega
theorem mgB_ok {L : Nat} {x y : Eb} (hx : EbOK x) (hy : EbOK y) (lx : x.lv = L) (ly : y.lv = L) : EbOK (mgB L x y) where
  len := by show (mg x.vs y.vs).length = 2 ^ (L + 1); rw [mg_len, hx.len, hy.len, lx, ly, Nat.pow_succ]; omega
  asc := mg_asc _ _ _ (Nat.le_refl _) hx.asc hy.asc
  rng := fun v hv => by
    rcases List.mem_append.1 ((mg_perm _ x.vs y.vs (Nat.le_refl _)).mem_iff.1 hv) with h | h
    · exact hx.rng v h
    · exact hy.rng v h
  last := (mg_perm _ x.vs y.vs (Nat.le_refl _)).mem_iff.2 (List.mem_append.2 (.inr hy.last))
end Go.Proofs.YtbageimconenlaaGreat
