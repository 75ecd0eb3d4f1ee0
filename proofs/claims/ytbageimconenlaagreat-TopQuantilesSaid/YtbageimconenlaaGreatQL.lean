/- One more block: the walk. -/
import Derived.Test.YtbageimconenlaaGreatQI
namespace Go.Proofs.YtbageimconenlaaGreat
open Go.RowKit En
set_option linter.unusedVariables false
theorem ent128 : Enters Tryz.prog 128 := enters Tryz.func128 (by kernel_rfl) (by kernel_rfl)
theorem mv_mix (f : Nat → Nat) (e k q : Nat) (m : Eb) (lA lB : List Bk) : mvB f (.vec e k (bkQL lA ++ bkN q m ++ bkQL lB)) = .vec e k (bkQL lA ++ bkN (f q) m ++ bkQL lB) := by
  show Box.vec e k _ = _
  rw [List.map_append, List.map_append, mv_bk, mv_bk]; rfl
theorem nb_mix {al : List Nat} {q : Nat} (hq : memB q al = true) {m : Eb} {lA lB : List Bk} : allNC al (bkQL lA ++ bkN q m ++ bkQL lB) = true := by
  have h : ∀ (a b : List Value), allNC al a = true → allNC al b = true → allNC al (a ++ b) = true := by
    intro a b ha hb
    induction a with
    | nil => exact hb
    | cons x a ih =>
      have ha : (nbC al x && allNC al a) = true := ha
      rw [Bool.and_eq_true] at ha
      show (nbC al x && allNC al (a ++ b)) = true
      rw [Bool.and_eq_true]; exact ⟨ha.1, ih ha.2⟩
  refine h _ _ (h _ _ (nb_bkQ _ _) ?_) (nb_bkQ _ _)
  show (true && (true && (true && (true && (memB q al && true))))) = true
  rw [hq]; rfl
section
variable {P : Program} {tb : List (Nat × TI)} {I : Nat} {s : St} {Q : Exit → St → Prop}
theorem AC.seqG {id : Nat} {ops : Array Oper} {d : Bool} {b : Code} (h : AC P tb I (.region id ops d) s (SQ (fun s' => AC P tb I b s' Q) Q)) : AC P tb I (.seq (.region id ops d) b) s Q := AC.seq h
theorem AC.seqX (sX : St) {a b : Code} (h : AC P tb I a s (SQ (fun s' => RenS I s' fun s2 => s2 = sX) Q)) (k : AC P tb I b sX Q) : AC P tb I (.seq a b) s Q :=
  AC.seqR ⟨aCode_mono a (fun e s h => ⟨sQ_mono (fun s h => h.mono fun s2 e => by subst e; exact k) (fun _ _ h => h) e s h.out⟩) h.out⟩
end
theorem sub_td {α : Type} {l : List α} {b : α} {F G : Nat} (h : b ∈ l.take F ++ l.drop G) : b ∈ l := by
  rcases List.mem_append.1 h with h | h
  · exact List.mem_of_mem_take h
  · exact List.mem_of_mem_drop h
theorem bk_out {B o d I n : Nat} {ρ ρ0 : Nat → Pl} {s : St} {a : Act} {w w0 : World} {l l' : List Bk} (hs : Sat ⟨B, w0, ρ0, I⟩ ρ s a w) (ho : En.lk s.σ o = some (.vec 273 5 (bkQL l'))) (hd : En.lk s.σ d = some (.deep (entK B l l'))) (hn : l'.length = n) :
    ∃ A' c', rV ρ (.slice (some ⟨o, 0, none⟩) n 0) = .slice A' n c' ∧ BL w A' n c' l' ∧ ∀ g, fpL A' n l' g → B ≤ g ∨ fpE l g := by
  have bo := (hs.bx _ _ ho).1
  obtain ⟨fd, fh, fb⟩ := box_deep_at (hs.bx _ _ hd).1
  obtain ⟨A', c', h1, h2⟩ := bkv_SL bo rfl rfl hn
  refine ⟨A', c', h1, ⟨h2, fun b hb => (fd b hb).1⟩, fun g hg => ?_⟩
  rcases hg with ⟨h0, o', h3⟩ | hg
  · left
    obtain ⟨_, hb⟩ := bo
    rcases hb with ⟨_, _, h5⟩ | ⟨h5, h6, _⟩
    · have := congrArg List.length h5
      rw [bkQL_len, hn] at this; simp at this; omega
    · rw [plAd_slice] at h1
      injection h1 with e1 _ _
      rw [h3] at e1
      unfold plAd at e1
      rw [h5] at e1
      cases e1
      exact h6
  · exact fh g hg
def hdS (B0 : Nat) (l : List Bk) (k : Nat) (b : Int) (L P Q : Nat) (l' : List Bk) : St :=
  ⟨[(13, .int .i64 (L : Nat)), (12, .int .i64 (P : Nat)), (11, .slice (some ⟨2, 0, none⟩) Q 0), (2, .int .i64 b), (1, .int .i64 (k : Nat))], [(2, .vec 273 5 (bkQL l')), (3, .deep (entK B0 l l'))], [3, 2, 1, 0], 142⟩
structure InvI (k : Nat) (b : Int) (RES : List Eb) (f L : Nat) (p lo : List Eb) : Prop where
  fu : p.length ≤ f
  ne : p ≠ []
  lp : L + p.length ≤ 1000
  res : casc k f L p ++ lo = RES
  ok : ∀ e ∈ p ++ lo, EbOK e
  tot : totE (p ++ lo) ≤ 900
  len : (p ++ lo).length ≤ 901
  cok : cOK k b f L p
set_option maxRecDepth 100000 in
set_option maxHeartbeats 2000000 in
theorem ql_insert (l : List Bk) (n k : Nat) (b t v : Int) (hn : n ≤ 900) (k1 : 1 ≤ k) (k2 : k ≤ 128) (b1 : 1 ≤ b) (b2 : b ≤ 65536) (hd : DB (l.map Bk.e) k b) (t0 : 0 ≤ t) (t1 : t ≤ 16777216) (hlast : ∀ e ∈ l.map Bk.e, e.t ≤ t) (v0 : -4096 ≤ v) (v1 : v ≤ 4096) (ht : totE (l.map Bk.e) + 1 ≤ 900)
    (hc : cOK k b (n + 1) 0 (l.map Bk.e ++ [⟨t, v, 0, [v]⟩])) (w : World) (A : Option Addr) (c : Nat) (h : BL w A n c l) :
    Calls Tryz.prog 128 #[.slice A n c, .int .i64 ((k : Nat)), .int .i64 b, .int .i64 t, .int .i64 v] w (fun e w' => ∃ A' c' l', l'.map Bk.e = insE k (l.map Bk.e) t v ∧ e = .returned (.slice A' (insE k (l.map Bk.e) t v).length c') ∧ BL w' A' (insE k (l.map Bk.e) t v).length c' l' ∧ (∀ g, fpL A' (insE k (l.map Bk.e) t v).length l' g → w.heap.size ≤ g ∨ fpL A n l g) ∧ Below w.heap.size w w') := by
  have hl := h.len
  have d1 : decide (t < 0) = false := by simp only [decide_eq_false_iff_not]; omega
  have d2 : decide (t > 16777216) = false := by simp only [decide_eq_false_iff_not]; omega
  have d3 : decide (v < -4096) = false := by simp only [decide_eq_false_iff_not]; omega
  have d4 : decide (v > 4096) = false := by simp only [decide_eq_false_iff_not]; omega
  have d5 : decide (((totE (l.map Bk.e) : Nat) : Int) ≥ 1073741824) = false := by simp only [decide_eq_false_iff_not]; omega
  have H := fun_bk tblOK mixedP Tryz.func128 rfl (fun s => [s, .int .i64 ((k : Nat)), .int .i64 b, .int .i64 t, .int .i64 v]) h [.slice (some ⟨0, 0, none⟩) n 0, .int .i64 ((k : Nat)), .int .i64 b, .int .i64 t, .int .i64 v] rfl (fun _ => rfl) 142 [(0, .slice (some ⟨0, 0, none⟩) n 0), (1, .int .i64 ((k : Nat))), (2, .int .i64 b), (3, .int .i64 t), (4, .int .i64 v)] rfl rfl (by kernel_rfl) rfl rfl (fun B0 u st => ∃ l', l'.map Bk.e = insE k (l.map Bk.e) t v ∧ u = .slice (some ⟨2, 0, none⟩) l'.length 0 ∧ En.lk st.σ 2 = some (.vec 273 5 (bkQL l')) ∧ En.lk st.σ 3 = some (.deep (entK B0 l l'))) (fun B0 => by
    have hFk : ∀ p w, entK B0 l l p w → entF l p w := fun p w h => h.1
    by_cases hn0 : n = 0
    · have z0 : decide ((n : Int) > 0) = false := by simp only [decide_eq_false_iff_not]; omega
      repeat' (first | rw [d1] | rw [d2] | rw [d3] | rw [d4] | rw [d5] | rw [z0] | refine AR.auto rfl ?_ | refine AR.man (AOk.callBLF (fun s => [s, .int .i64 ((k : Nat)), .int .i64 b]) 0 1 n l hFk (fun w A c h => qd_valid l n k b hn k1 k2 b1 b2 hd w A c h) ent182 rfl rfl rfl (fun _ => rfl) rfl rfl rfl rfl hl rfl) rfl rfl rfl ?_ | refine AR.man (AOk.callBLF (fun s => [s]) 0 1 n l hFk (fun w A c h => qb_btotal l n hn (by omega) (fun e he => (hd.vb.rng e he).2) w A c h) ent127 rfl rfl rfl (fun _ => rfl) rfl rfl rfl rfl hl rfl) rfl rfl rfl ?_ | refine AR.man (okb_app 3 (D := 2) (Y := 0) (oy := 0) (len := 0) (m := n) (L' := n) (C := []) (C' := bkQL l) (news := bkQL l) (b := .view 5 (bkQL l)) (Nat.zero_add n) (by omega) rfl rfl rfl rfl rfl rfl rfl rfl rfl (by simp) (fun j v h => by rw [Nat.zero_add]; exact h) (by rw [bkQL_len, hl]) (one_bkQ l) (by simp)) rfl rfl rfl ?_ | refine AR.man (AOk.callOD (fun s => .agg #[.int .i64 1, s]) 4 1 B0 [v] (σ := [(1, .deep (entK B0 l l))]) (vs := [.int .i64 v]) rfl (fun B ρ w hB hσ => ⟨(box_deep_at (hσ 1 _ List.mem_cons_self)).2.2, qg_single v w⟩) ent184 rfl rfl rfl (fun n b h => by simp at h; obtain ⟨rfl, rfl⟩ := h; rfl) rfl (fun _ => rfl) rfl) rfl rfl rfl ?_ | refine AR.man (okb_app 6 (D := 3) (Y := 5) (oy := 0) (len := n) (m := 1) (L' := n + 1) (C := bkQL l) (C' := bkQL l ++ bkN 4 ⟨t, v, 0, [v]⟩ ++ bkQL []) (news := bkN 4 ⟨t, v, 0, [v]⟩) rfl (by omega) rfl rfl rfl rfl rfl rfl rfl rfl rfl (Nat.le_of_eq (by rw [bkQL_len, hl])) (fun j v h => by rw [Nat.zero_add]; exact h) rfl (fun u hu => by simp only [bkN, List.mem_cons, List.not_mem_nil, or_false] at hu; rcases hu with rfl | rfl | rfl | rfl | rfl <;> rfl) (by rw [List.take_of_length_le (by rw [bkQL_len, hl]; exact Nat.le_refl _)]; simp [bkQL])) rfl rfl rfl ?_ | refine AR.nil ?_ | refine KF.mk ?_ | refine KT.mk (by kernel_rfl) ?_ | refine SQ.normal ?_ | refine AC.seq ?_ | refine AC.regF ?_ | refine AC.regT ?_ | refine AC.condT rfl ?_ | refine AC.condF rfl ?_ | refine AC.block ?_ | refine BQ.normal ?_ | refine BQ.ret ?_ | refine BQ.here ?_ | refine BQ.there rfl ?_ | refine SQ.ret ?_ | refine SQ.exit ?_ | refine AC.ret ?_ | refine AC.exit ?_ | refine AC.skip ?_ | (refine AR.split rfl (fun h => ?_) (fun h => ?_) <;> rw [h]) | (refine AC.cond rfl (fun h => ?_) (fun h => ?_) <;> rw [h]) | refine FQ.ret rfl rfl ?_ | refine FQ.normal rfl rfl ?_)
      refine AC.loopS (fun m st => ∃ L p lo l' Q, InvI k b (insE k (l.map Bk.e) t v) m L p lo ∧ l'.map Bk.e = p ++ lo ∧ l'.length = Q ∧ st = hdS B0 l k b L p.length Q l') ?_ ?_
      · refine RenS.trans (s' := ⟨[(13, .int .i64 ((0 : Nat))), (12, .int .i64 ((n + 1 : Nat))), (11, .slice (some ⟨2, 0, none⟩) (n + 1) 0), (2, .int .i64 b), (1, .int .i64 (k : Nat))], [(2, .vec 273 5 (bkQL l ++ bkN 3 ⟨t, v, 0, [v]⟩ ++ bkQL [])), (3, .deep (ownF B0 [v])), (1, .deep (entK B0 l l))], [3, 2, 1, 0], 142⟩) (Ren.mv (tabF [(2, 6), (3, 4)]) rfl (fun k hk => by match k, hk with | 0, _ => exact ⟨rfl, rfl⟩ | 1, _ => exact ⟨rfl, rfl⟩) ⟨⟨rfl, rfl⟩, ⟨rfl, rfl⟩, ⟨rfl, rfl⟩, ⟨rfl, rfl⟩, ⟨rfl, rfl⟩, trivial⟩ ⟨⟨by rw [mv_mix]; rfl, rfl, nb_mix rfl⟩, ⟨rfl, rfl, rfl⟩, ⟨rfl, rfl, rfl⟩, trivial⟩ rfl) ?_
        refine RenS.bind (RenS.quote (S := fun st => ∃ x : Bk, x.e = ⟨t, v, 0, [v]⟩ ∧ st = ⟨[(13, .int .i64 ((0 : Nat))), (12, .int .i64 ((n + 1 : Nat))), (11, .slice (some ⟨2, 0, none⟩) (n + 1) 0), (2, .int .i64 b), (1, .int .i64 (k : Nat))], [(2, .vec 273 5 (bkQL (l ++ [x]))), (4, .deep (entK B0 l (l ++ [x])))], [4, 3, 2, 1, 0], 142⟩) (l0 := l) (lA := l) (lB := []) (m := ⟨t, v, 0, [v]⟩) (fun p w h => by rw [List.append_nil]; exact h) rfl rfl rfl rfl rfl rfl (fun x hx => ⟨x, hx, rfl⟩)) ?_
        rintro _ ⟨x, hx, rfl⟩
        have hmx : (l ++ [x]).map Bk.e = l.map Bk.e ++ [⟨t, v, 0, [v]⟩] := by rw [List.map_append, List.map_cons, List.map_nil, hx]
        refine RenS.of (s' := hdS B0 l k b 0 (n + 1) (n + 1) (l ++ [x])) (Ren.mv (tabF [(3, 4)]) rfl (fun k hk => by match k, hk with | 0, _ => exact ⟨rfl, rfl⟩ | 1, _ => exact ⟨rfl, rfl⟩) ⟨⟨rfl, rfl⟩, ⟨rfl, rfl⟩, ⟨rfl, rfl⟩, ⟨rfl, rfl⟩, ⟨rfl, rfl⟩, trivial⟩ ⟨⟨by rw [mv_bkr]; rfl, rfl, nb_bkQ _ _⟩, ⟨rfl, rfl, rfl⟩, trivial⟩ rfl) ⟨n + 1, 0, l.map Bk.e ++ [⟨t, v, 0, [v]⟩], [], l ++ [x], n + 1, ?_, by rw [hmx, List.append_nil], by simp [hl], by simp [hl]⟩
        refine ⟨by simp [hl], by simp, by simp [hl]; omega, ?_, ?_, ?_, by simp [hl]; omega, hc⟩
        · rw [List.append_nil]; unfold insE; rw [List.length_map, hl]
        · intro e he
          rw [List.append_nil] at he
          rcases List.mem_append.1 he with he | he
          · exact hd.ok e he
          · rw [List.mem_singleton] at he; subst he
            exact ⟨rfl, List.pairwise_singleton _ _, fun u hu => by rw [List.mem_singleton] at hu; subst hu; exact ⟨v0, v1⟩, List.mem_singleton.2 rfl⟩
        · rw [List.append_nil, totE_app]; show totE (l.map Bk.e) + (2 ^ 0 + 0) ≤ 900; omega
      intro m st hi
      obtain ⟨L, p, lo, l', Q, hI, hm', rfl, rfl⟩ := hi
      have hlen : l'.length = (p ++ lo).length := by rw [← hm', List.length_map]
      rw [List.length_append] at hlen
      have hle := hI.len
      rw [List.length_append] at hle
      have hlp := hI.lp
      have hp0 : 0 < p.length := List.length_pos_iff.2 hI.ne
      have hf0 := fst_le L p p.length
      unfold hdS
      refine AC.seq ?_
      refine AC.block ?_
      repeat' (first | refine AR.auto rfl ?_ | refine AR.nil ?_ | refine KF.mk ?_ | refine KT.mk (by kernel_rfl) ?_ | refine SQ.normal ?_ | refine AC.seqG ?_ | refine AC.regF ?_ | refine AC.regT ?_ | refine AC.condT rfl ?_ | refine AC.condF rfl ?_ | refine AC.block ?_ | refine BQ.normal ?_ | refine BQ.ret ?_ | refine BQ.here ?_ | refine BQ.there rfl ?_ | refine SQ.ret ?_ | refine SQ.exit ?_ | refine AC.ret ?_ | refine AC.exit ?_ | refine AC.skip ?_ | (refine AR.split rfl (fun h => ?_) (fun h => ?_) <;> rw [h]) | (refine AC.cond rfl (fun h => ?_) (fun h => ?_) <;> rw [h]) | refine FQ.ret rfl rfl ?_ | refine FQ.normal rfl rfl ?_)
      refine AC.seqX (⟨[(14, .int .i64 ((fst L p p.length : Nat))), (13, .int .i64 (L : Nat)), (12, .int .i64 (p.length : Nat)), (11, .slice (some ⟨2, 0, none⟩) l'.length 0), (2, .int .i64 b), (1, .int .i64 (k : Nat))], [(2, .vec 273 5 (bkQL l')), (3, .deep (entK B0 l l'))], [3, 2, 1, 0], 142⟩) ?_ ?_
      · refine AC.block ?_
        refine AC.loop (fun i st => i ≤ p.length ∧ fst L p i = fst L p p.length ∧ st = ⟨[(14, .int .i64 ((i : Nat))), (13, .int .i64 (L : Nat)), (12, .int .i64 (p.length : Nat)), (11, .slice (some ⟨2, 0, none⟩) l'.length 0), (2, .int .i64 b), (1, .int .i64 (k : Nat))], [(2, .vec 273 5 (bkQL l')), (3, .deep (entK B0 l l'))], [3, 2, 1, 0], 142⟩) p.length _ ?_ ⟨Nat.le_refl _, rfl, rfl⟩ ?_
        · exact Ren.mv (tabF []) rfl (fun k hk => by match k, hk with | 0, _ => exact ⟨rfl, rfl⟩ | 1, _ => exact ⟨rfl, rfl⟩) ⟨⟨rfl, rfl⟩, ⟨rfl, rfl⟩, ⟨rfl, rfl⟩, ⟨rfl, rfl⟩, ⟨rfl, rfl⟩, ⟨rfl, rfl⟩, trivial⟩ ⟨⟨by rw [mv_bkr]; rfl, rfl, nb_bkQ _ _⟩, ⟨rfl, rfl, rfl⟩, trivial⟩ rfl
        rintro i st ⟨hi1, hi2, rfl⟩
        by_cases hi0 : i = 0
        · have z0 : decide ((i : Int) > 0) = false := by simp only [decide_eq_false_iff_not]; omega
          have hf : fst L p p.length = i := by rw [← hi2, hi0]; rfl
          repeat' (first | rw [z0] | refine AR.auto rfl ?_ | refine AR.nil ?_ | refine KF.mk ?_ | refine KT.mk (by kernel_rfl) ?_ | refine SQ.normal ?_ | refine AC.seq ?_ | refine AC.regF ?_ | refine AC.regT ?_ | refine AC.condT rfl ?_ | refine AC.condF rfl ?_ | refine AC.block ?_ | refine BQ.normal ?_ | refine BQ.ret ?_ | refine BQ.here ?_ | refine BQ.there rfl ?_ | refine SQ.ret ?_ | refine SQ.exit ?_ | refine AC.ret ?_ | refine AC.exit ?_ | refine AC.skip ?_ | (refine AR.split rfl (fun h => ?_) (fun h => ?_) <;> rw [h]) | (refine AC.cond rfl (fun h => ?_) (fun h => ?_) <;> rw [h]) | refine FQ.ret rfl rfl ?_ | refine FQ.normal rfl rfl ?_)
          rw [hf]
          exact RenS.of (s' := ⟨[(14, .int .i64 ((i : Nat))), (13, .int .i64 (L : Nat)), (12, .int .i64 (p.length : Nat)), (11, .slice (some ⟨2, 0, none⟩) l'.length 0), (2, .int .i64 b), (1, .int .i64 (k : Nat))], [(2, .vec 273 5 (bkQL l')), (3, .deep (entK B0 l l'))], [3, 2, 1, 0], 142⟩) (Ren.mv (tabF []) rfl (fun k hk => by match k, hk with | 0, _ => exact ⟨rfl, rfl⟩ | 1, _ => exact ⟨rfl, rfl⟩) ⟨⟨rfl, rfl⟩, ⟨rfl, rfl⟩, ⟨rfl, rfl⟩, ⟨rfl, rfl⟩, ⟨rfl, rfl⟩, ⟨rfl, rfl⟩, trivial⟩ ⟨⟨by rw [mv_bkr]; rfl, rfl, nb_bkQ _ _⟩, ⟨rfl, rfl, rfl⟩, trivial⟩ rfl) rfl
        · have z0 : decide ((i : Int) > 0) = true := by simp only [decide_eq_true_eq]; omega
          have w4 : IntKind.i64.wrap ((i : Int) - 1) = ((i - 1 : Nat) : Int) := by rw [IntWalk.i64_in _ (by omega)]; omega
          obtain ⟨x, hx⟩ : ∃ x, l'[i - 1]? = some x := ⟨l'[i - 1]'(by omega), List.getElem?_eq_getElem (by omega)⟩
          have hxp : p[i - 1]? = some x.e := by
            have h9 : (l'.map Bk.e)[i - 1]? = some x.e := by rw [List.getElem?_map, hx]; rfl
            rw [hm', List.getElem?_append_left (by omega)] at h9; exact h9
          have hfs : fst L p i = if x.e.lv = L then fst L p (i - 1) else i := by
            obtain ⟨j, rfl⟩ : ∃ j, i = j + 1 := ⟨i - 1, by omega⟩
            rw [fst]
            have h9 : p[j]? = some x.e := hxp
            rw [h9]; rfl
          by_cases hlv : x.e.lv = L
          · have z1 : (((x.e.lv : Nat) : Int) == (L : Int)) = true := by rw [beq_iff_eq]; omega
            rw [if_pos hlv] at hfs
            repeat' (first | rw [z0] | rw [w4] | rw [z1] | refine AR.auto rfl ?_ | refine AR.man (okb_idx (A0 := 2) (i := i - 1) rfl rfl rfl rfl (nonE_bkr 273 5 (by omega)) (by omega)) rfl rfl rfl ?_ | refine AR.man (ok_ld3 (A0 := 2) (u := ((x.e.lv : Nat) : Int)) rfl rfl rfl (by show (bkQL l')[_]? = _; rw [show 0 + (i - 1) * 5 + 2 = (i - 1) * 5 + 2 from (by omega), bkQL_at l' (i - 1) 2 x hx (by decide)]; rfl)) rfl rfl rfl ?_ | refine AR.nil ?_ | refine KF.mk ?_ | refine KT.mk (by kernel_rfl) ?_ | refine SQ.normal ?_ | refine AC.seq ?_ | refine AC.regF ?_ | refine AC.regT ?_ | refine AC.condT rfl ?_ | refine AC.condF rfl ?_ | refine AC.block ?_ | refine BQ.normal ?_ | refine BQ.ret ?_ | refine BQ.here ?_ | refine BQ.there rfl ?_ | refine SQ.ret ?_ | refine SQ.exit ?_ | refine AC.ret ?_ | refine AC.exit ?_ | refine AC.skip ?_ | (refine AR.split rfl (fun h => ?_) (fun h => ?_) <;> rw [h]) | (refine AC.cond rfl (fun h => ?_) (fun h => ?_) <;> rw [h]) | refine FQ.ret rfl rfl ?_ | refine FQ.normal rfl rfl ?_)
            refine ⟨i - 1, _, by omega, ?_, by omega, by rw [← hfs]; exact hi2, rfl⟩
            exact Ren.mv (tabF []) rfl (fun k hk => by match k, hk with | 0, _ => exact ⟨rfl, rfl⟩ | 1, _ => exact ⟨rfl, rfl⟩) ⟨⟨rfl, rfl⟩, ⟨rfl, rfl⟩, ⟨rfl, rfl⟩, ⟨rfl, rfl⟩, ⟨rfl, rfl⟩, ⟨rfl, rfl⟩, trivial⟩ ⟨⟨by rw [mv_bkr]; rfl, rfl, nb_bkQ _ _⟩, ⟨rfl, rfl, rfl⟩, trivial⟩ rfl
          · have z1 : (((x.e.lv : Nat) : Int) == (L : Int)) = false := by rw [beq_eq_false_iff_ne]; omega
            rw [if_neg hlv] at hfs
            have hf : fst L p p.length = i := by rw [← hi2, hfs]
            repeat' (first | rw [z0] | rw [w4] | rw [z1] | refine AR.auto rfl ?_ | refine AR.man (okb_idx (A0 := 2) (i := i - 1) rfl rfl rfl rfl (nonE_bkr 273 5 (by omega)) (by omega)) rfl rfl rfl ?_ | refine AR.man (ok_ld3 (A0 := 2) (u := ((x.e.lv : Nat) : Int)) rfl rfl rfl (by show (bkQL l')[_]? = _; rw [show 0 + (i - 1) * 5 + 2 = (i - 1) * 5 + 2 from (by omega), bkQL_at l' (i - 1) 2 x hx (by decide)]; rfl)) rfl rfl rfl ?_ | refine AR.nil ?_ | refine KF.mk ?_ | refine KT.mk (by kernel_rfl) ?_ | refine SQ.normal ?_ | refine AC.seq ?_ | refine AC.regF ?_ | refine AC.regT ?_ | refine AC.condT rfl ?_ | refine AC.condF rfl ?_ | refine AC.block ?_ | refine BQ.normal ?_ | refine BQ.ret ?_ | refine BQ.here ?_ | refine BQ.there rfl ?_ | refine SQ.ret ?_ | refine SQ.exit ?_ | refine AC.ret ?_ | refine AC.exit ?_ | refine AC.skip ?_ | (refine AR.split rfl (fun h => ?_) (fun h => ?_) <;> rw [h]) | (refine AC.cond rfl (fun h => ?_) (fun h => ?_) <;> rw [h]) | refine FQ.ret rfl rfl ?_ | refine FQ.normal rfl rfl ?_)
            rw [hf]
            exact RenS.of (s' := ⟨[(14, .int .i64 ((i : Nat))), (13, .int .i64 (L : Nat)), (12, .int .i64 (p.length : Nat)), (11, .slice (some ⟨2, 0, none⟩) l'.length 0), (2, .int .i64 b), (1, .int .i64 (k : Nat))], [(2, .vec 273 5 (bkQL l')), (3, .deep (entK B0 l l'))], [3, 2, 1, 0], 142⟩) (Ren.mv (tabF []) rfl (fun k hk => by match k, hk with | 0, _ => exact ⟨rfl, rfl⟩ | 1, _ => exact ⟨rfl, rfl⟩) ⟨⟨rfl, rfl⟩, ⟨rfl, rfl⟩, ⟨rfl, rfl⟩, ⟨rfl, rfl⟩, ⟨rfl, rfl⟩, ⟨rfl, rfl⟩, trivial⟩ ⟨⟨by rw [mv_bkr]; rfl, rfl, nb_bkQ _ _⟩, ⟨rfl, rfl, rfl⟩, trivial⟩ rfl) rfl
      have w1 : IntKind.i64.wrap ((p.length : Int) - ((fst L p p.length : Nat) : Int)) = ((p.length - fst L p p.length : Nat) : Int) := by rw [IntWalk.i64_in _ (by omega)]; omega
      have w2 : IntKind.i64.wrap ((k : Int) + 2) = ((k + 2 : Nat) : Int) := by rw [IntWalk.i64_in _ (by omega)]; rfl
      by_cases hst : p.length - fst L p p.length < k + 2
      · have d : decide (((p.length - fst L p p.length : Nat) : Int) < ((k + 2 : Nat) : Int)) = true := by simp only [decide_eq_true_eq]; omega
        repeat' (first | rw [w1] | rw [w2] | rw [d] | refine AR.auto rfl ?_ | refine AR.nil ?_ | refine KF.mk ?_ | refine KT.mk (by kernel_rfl) ?_ | refine SQ.normal ?_ | refine AC.seq ?_ | refine AC.regF ?_ | refine AC.regT ?_ | refine AC.condT rfl ?_ | refine AC.condF rfl ?_ | refine AC.block ?_ | refine BQ.normal ?_ | refine BQ.ret ?_ | refine BQ.here ?_ | refine BQ.there rfl ?_ | refine SQ.ret ?_ | refine SQ.exit ?_ | refine AC.ret ?_ | refine AC.exit ?_ | refine AC.skip ?_ | (refine AR.split rfl (fun h => ?_) (fun h => ?_) <;> rw [h]) | (refine AC.cond rfl (fun h => ?_) (fun h => ?_) <;> rw [h]) | refine FQ.ret rfl rfl ?_ | refine FQ.normal rfl rfl ?_)
        exact ⟨l', by rw [hm', ← hI.res, casc_stop hst], rfl, rfl, rfl⟩
      · obtain ⟨F, hF⟩ : ∃ F, fst L p p.length = F := ⟨_, rfl⟩
        obtain ⟨g, rfl⟩ : ∃ g, m = g + 1 := ⟨m - 1, by have := hI.fu; omega⟩
        obtain ⟨x, y, mm, hdr⟩ : ∃ x y mm, p.drop (fst L p p.length) = x :: y :: mm := by
          have h9 : (p.drop (fst L p p.length)).length = p.length - fst L p p.length := List.length_drop
          match hh : p.drop (fst L p p.length) with
          | [] => rw [hh] at h9; simp at h9; omega
          | [_] => rw [hh] at h9; simp at h9; omega
          | x :: y :: mm => exact ⟨x, y, mm, rfl⟩
        have hml : p.length - fst L p p.length = mm.length + 2 := by
          rw [← List.length_drop, hdr]; rfl
        have hkm : k ≤ mm.length := by omega
        obtain ⟨hb2, hco⟩ := cOK_go hdr hkm hI.cok
        have hres := hI.res
        rw [casc_go hdr hkm] at hres
        have hfl := fst_lv L p p.length
        rw [hF] at hdr hml hco hres hfl w1 hst hf0 ⊢
        have hl'd : l'.drop F = (l'.drop F) := rfl
        have hpx : p[F]? = some x := by have := congrArg (·[0]?) hdr; simpa using this
        have hpy : p[F + 1]? = some y := by have := congrArg (·[1]?) hdr; simpa using this
        obtain ⟨X, hX⟩ : ∃ X, l'[F]? = some X := ⟨l'[F]'(by omega), List.getElem?_eq_getElem (by omega)⟩
        obtain ⟨Y, hY⟩ : ∃ Y, l'[F + 1]? = some Y := ⟨l'[F + 1]'(by omega), List.getElem?_eq_getElem (by omega)⟩
        obtain rfl : x = X.e := by
          have h9 : (l'.map Bk.e)[F]? = some X.e := by rw [List.getElem?_map, hX]; rfl
          rw [hm', List.getElem?_append_left (by omega), hpx] at h9; exact Option.some.inj h9
        obtain rfl : y = Y.e := by
          have h9 : (l'.map Bk.e)[F + 1]? = some Y.e := by rw [List.getElem?_map, hY]; rfl
          rw [hm', List.getElem?_append_left (by omega), hpy] at h9; exact Option.some.inj h9
        have hXl := List.mem_of_getElem? hX
        have hYl := List.mem_of_getElem? hY
        have okX := hI.ok _ (List.mem_append.2 (.inl (List.mem_of_getElem? hpx)))
        have okY := hI.ok _ (List.mem_append.2 (.inl (List.mem_of_getElem? hpy)))
        have lX := hfl F _ (Nat.le_refl _) (by omega) hpx
        have lY := hfl (F + 1) _ (by omega) (by omega) hpy
        have nX : X.e.vs.length = 2 ^ L := by rw [okX.len, lX]
        have nY : Y.e.vs.length = 2 ^ L := by rw [okY.len, lY]
        have hpow : 2 ^ L ≤ 900 := by
          have := pow_le_tot (List.mem_append.2 (.inl (List.mem_of_getElem? hpx)) : X.e ∈ p ++ lo)
          rw [lX] at this; exact Nat.le_trans this hI.tot
        have hpos := Nat.two_pow_pos L
        have nZ : (mg X.e.vs Y.e.vs).length = 2 ^ (L + 1) := by rw [mg_len, nX, nY, Nat.pow_succ]; omega
        have hsum : 2 ^ (L + 1) ≤ 900 := by
          have h9 := totE_app (p.take F) (p.drop F)
          rw [List.take_append_drop, hdr, totE, totE, lX, lY] at h9
          have h8 := totE_app p lo
          have h7 := hI.tot
          rw [Nat.pow_succ]; omega
        have aZ : Asc (mg X.e.vs Y.e.vs) := mg_asc _ _ _ (Nat.le_refl _) okX.asc okY.asc
        have hAF : (l'.take F).length = F := by rw [List.length_take]; omega
        have hdd : l'.drop F = X :: Y :: l'.drop (F + 2) := by
          rw [List.drop_eq_getElem_cons (by omega), List.drop_eq_getElem_cons (by omega)]
          have h1 := (List.getElem?_eq_some_iff.1 hX).2
          have h2 := (List.getElem?_eq_some_iff.1 hY).2
          rw [h1, h2]
        have hsp : bkQL l' = bkQL (l'.take F) ++ bkQ X ++ bkQL (Y :: l'.drop (F + 2)) := by
          rw [List.append_assoc, show bkQ X ++ bkQL (Y :: l'.drop (F + 2)) = bkQL (X :: Y :: l'.drop (F + 2)) from rfl, ← hdd, ← bkQL_app, List.take_append_drop]
        have hA5 : (bkQL (l'.take F)).length = F * 5 := by rw [bkQL_len, hAF]
        have hBl : (l'.drop (F + 2)).length = l'.length - (F + 2) := List.length_drop
        have hst1 : spl (bkQL l') (0 + F * 5) (bkN 8 (mgB L X.e Y.e)) = bkQL (l'.take F) ++ bkN 8 (mgB L X.e Y.e) ++ bkQL (Y :: l'.drop (F + 2)) := by
          rw [hsp, Nat.zero_add, ← hA5]; exact spl_mid _ _ _ _ rfl
        have hC5 : (bkQL (l'.take F) ++ bkN 8 (mgB L X.e Y.e) ++ bkQL (Y :: l'.drop (F + 2))).length = l'.length * 5 := by
          rw [List.length_append, List.length_append, hA5, bkQL_len, List.length_cons, hBl]
          show F * 5 + 5 + _ = _
          omega
        have hAN : (bkQL (l'.take F) ++ bkN 8 (mgB L X.e Y.e)).length = (F + 1) * 5 := by
          rw [List.length_append, hA5]; show F * 5 + 5 = _; omega
        have htk : (bkQL (l'.take F) ++ bkN 8 (mgB L X.e Y.e) ++ bkQL (Y :: l'.drop (F + 2))).take ((F + 1) * 5) = bkQL (l'.take F) ++ bkN 8 (mgB L X.e Y.e) := by
          rw [← hAN, List.take_left']
          rfl
        have hnew : ∀ (j : Nat) (v : Value), (bkQL (l'.drop (F + 2)))[j]? = some v → (bkQL (l'.take F) ++ bkN 8 (mgB L X.e Y.e) ++ bkQL (Y :: l'.drop (F + 2)))[(F + 2) * 5 + j]? = some v := fun j v hv => by
          rw [List.getElem?_append_right (by rw [hAN]; omega), hAN, show bkQL (Y :: l'.drop (F + 2)) = bkQ Y ++ bkQL (l'.drop (F + 2)) from rfl, List.getElem?_append_right (by show 5 ≤ _; omega)]
          rw [show (F + 2) * 5 + j - (F + 1) * 5 - (bkQ Y).length = j from by show (F + 2) * 5 + j - (F + 1) * 5 - 5 = j; omega]
          exact hv
        have d : decide (((p.length - F : Nat) : Int) < ((k + 2 : Nat) : Int)) = false := by simp only [decide_eq_false_iff_not]; omega
        have w5 : IntKind.i64.wrap ((F : Int) + 1) = ((F + 1 : Nat) : Int) := by rw [IntWalk.i64_in _ (by omega)]; rfl
        have w6 : IntKind.i64.wrap ((F : Int) + 2) = ((F + 2 : Nat) : Int) := by rw [IntWalk.i64_in _ (by omega)]; rfl
        have w7 : IntKind.i64.wrap ((L : Int) + 1) = ((L + 1 : Nat) : Int) := by rw [IntWalk.i64_in _ (by omega)]; rfl
        repeat' (first | rw [w1] | rw [w2] | rw [d] | rw [w5] | rw [w6] | rw [w7] | refine AR.auto rfl ?_ | refine AR.man (okb_idx (A0 := 2) (i := F) rfl rfl rfl rfl (nonE_bkr 273 5 (by omega)) (by omega)) rfl rfl rfl ?_ | refine AR.man (okb_idx (A0 := 2) (i := F + 1) rfl rfl rfl rfl (nonE_bkr 273 5 (by omega)) (by omega)) rfl rfl rfl ?_ | refine AR.man (okb_ld (m := X) rfl rfl rfl (fun jj u hu => by rw [show 0 + (F) * 5 + jj = (F) * 5 + jj from (by omega), show (Box.vec 273 5 (bkQL l')).cells = bkQL l' from rfl, bkQL_at l' (F) jj X hX (by have := (List.getElem?_eq_some_iff.1 hu).1; simpa [bkQ] using this)]; exact hu)) rfl rfl rfl ?_ | refine AR.man (okb_ld (m := Y) rfl rfl rfl (fun jj u hu => by rw [show 0 + (F + 1) * 5 + jj = (F + 1) * 5 + jj from (by omega), show (Box.vec 273 5 (bkQL l')).cells = bkQL l' from rfl, bkQL_at l' (F + 1) jj Y hY (by have := (List.getElem?_eq_some_iff.1 hu).1; simpa [bkQ] using this)]; exact hu)) rfl rfl rfl ?_ | refine AR.man (AOk.callOD (fun s => .tuple #[.agg #[.int .i64 (((mg X.e.vs Y.e.vs).length : Nat)), s], .int .i64 0]) 6 (mg X.e.vs Y.e.vs).length B0 (mg X.e.vs Y.e.vs) (σ := [(3, .deep (entK B0 l l'))]) (vs := [.agg #[.int .i64 ((X.e.vs.length : Nat)), .iface 0 (.slice X.A X.e.vs.length X.c)], .agg #[.int .i64 ((Y.e.vs.length : Nat)), .iface 0 (.slice Y.A Y.e.vs.length Y.c)]]) rfl (fun B ρ w hB hσ => ⟨(box_deep_at (hσ 3 _ List.mem_cons_self)).2.2, by rw [mg_len]; exact qg_merge X.e.vs Y.e.vs _ _ rfl rfl (by omega) (by omega) (by omega) (by omega) okX.asc okY.asc w _ _ _ _ ((box_deep_at (hσ 3 _ List.mem_cons_self)).1 X hXl).1 ((box_deep_at (hσ 3 _ List.mem_cons_self)).1 Y hYl).1⟩) ent185 rfl rfl rfl (fun n b h => by simp at h; obtain ⟨rfl, rfl⟩ := h; rfl) rfl (fun _ => rfl) rfl) rfl rfl rfl ?_ | refine AR.man (AOk.callOD (fun s => .tuple #[.agg #[.int .i64 (((mg X.e.vs Y.e.vs).length : Nat)), s], .int .i64 0]) 8 (mg X.e.vs Y.e.vs).length B0 (mg X.e.vs Y.e.vs) (σ := [(6, .deep (ownF B0 (mg X.e.vs Y.e.vs))), (3, .deep (entK B0 l l'))]) (vs := [.agg #[.int .i64 (((mg X.e.vs Y.e.vs).length : Nat)), .slice (some ⟨6, 0, none⟩) (mg X.e.vs Y.e.vs).length 0], .int .i64 b]) rfl (fun B ρ w hB hσ => ⟨(box_deep_at (hσ 3 _ (List.mem_cons_of_mem _ List.mem_cons_self))).2.2, by show Calls _ _ #[.agg #[_, rC ρ (.slice (some ⟨6, 0, none⟩) (mg X.e.vs Y.e.vs).length 0)], _] _ _; rw [plAd_slice]; exact qh_prune (mg X.e.vs Y.e.vs) _ b rfl (by omega) aZ b1 b2 (by rw [nZ]; exact hb2) w _ _ (box_deep_at (hσ 6 _ List.mem_cons_self)).1⟩) ent186 rfl rfl rfl (fun n b h => by simp at h; rcases h with ⟨rfl, rfl⟩ | ⟨rfl, rfl⟩ <;> rfl) rfl (fun _ => rfl) rfl) rfl rfl rfl ?_ | refine AR.man (okb_st (D := 2) (i := 0 + F * 5) (vs := bkN 8 (mgB L X.e Y.e)) rfl rfl rfl rfl rfl rfl (by rw [bkQL_len]; omega) hst1) rfl rfl rfl ?_ | refine AR.man (okb_sl (D := 2) (i := F + 1) rfl rfl rfl rfl hC5 (by omega) (by omega)) rfl rfl rfl ?_ | refine AR.man (okb_sr (D := 2) (i := F + 2) rfl rfl rfl rfl hC5 (by omega)) rfl rfl rfl ?_ | refine AR.man (okb_app 9 (D := 2) (Y := 2) (oy := (F + 2) * 5) (len := F + 1) (m := l'.length - (F + 2)) (L' := l'.length - 1) (news := bkQL (l'.drop (F + 2))) (C' := bkQL (l'.take F) ++ bkN 8 (mgB L X.e Y.e) ++ bkQL (l'.drop (F + 2))) (by omega) (by omega) rfl rfl rfl rfl rfl rfl rfl rfl rfl (by rw [hC5]; omega) hnew (by rw [bkQL_len, hBl]) (one_bkQ _) (by rw [htk])) rfl rfl rfl ?_ | refine AR.nil ?_ | refine KF.mk ?_ | refine KT.mk (by kernel_rfl) ?_ | refine SQ.normal ?_ | refine AC.seq ?_ | refine AC.regF ?_ | refine AC.regT ?_ | refine AC.condT rfl ?_ | refine AC.condF rfl ?_ | refine AC.block ?_ | refine BQ.normal ?_ | refine BQ.ret ?_ | refine BQ.here ?_ | refine BQ.there rfl ?_ | refine SQ.ret ?_ | refine SQ.exit ?_ | refine AC.ret ?_ | refine AC.exit ?_ | refine AC.skip ?_ | (refine AR.split rfl (fun h => ?_) (fun h => ?_) <;> rw [h]) | (refine AC.cond rfl (fun h => ?_) (fun h => ?_) <;> rw [h]) | refine FQ.ret rfl rfl ?_ | refine FQ.normal rfl rfl ?_)
        have hpl : p = p.take F ++ X.e :: Y.e :: mm := by rw [← hdr, List.take_append_drop]
        have hmA : (l'.take F).map Bk.e = p.take F := by rw [List.map_take, hm', List.take_append_of_le_length (by omega)]
        have hmB : (l'.drop (F + 2)).map Bk.e = mm ++ lo := by
          have h9 : p.drop (F + 2) = mm := by rw [← List.drop_drop, hdr]; rfl
          rw [List.map_drop, hm', List.drop_append_of_le_length (by omega), h9]
        refine RenS.trans (s' := ⟨[(13, .int .i64 ((L + 1 : Nat))), (12, .int .i64 ((F + 1 : Nat))), (11, .slice (some ⟨2, 0, none⟩) (l'.length - 1) 0), (2, .int .i64 b), (1, .int .i64 (k : Nat))], [(2, .vec 273 5 (bkQL (l'.take F) ++ bkN 4 (mgB L X.e Y.e) ++ bkQL (l'.drop (F + 2)))), (4, .deep (ownF B0 (mg X.e.vs Y.e.vs))), (3, .deep (entK B0 l l'))], [4, 3, 2, 1, 0], 142⟩) (Ren.mv (tabF [(2, 9), (4, 8)]) rfl (fun k hk => by match k, hk with | 0, _ => exact ⟨rfl, rfl⟩ | 1, _ => exact ⟨rfl, rfl⟩) ⟨⟨rfl, rfl⟩, ⟨rfl, rfl⟩, ⟨rfl, rfl⟩, ⟨rfl, rfl⟩, ⟨rfl, rfl⟩, trivial⟩ ⟨⟨by rw [mv_mix]; rfl, rfl, nb_mix rfl⟩, ⟨rfl, rfl, rfl⟩, ⟨rfl, rfl, rfl⟩, trivial⟩ rfl) ?_
        refine RenS.bind (RenS.quote (S := fun st => ∃ x : Bk, x.e = mgB L X.e Y.e ∧ st = ⟨[(13, .int .i64 ((L + 1 : Nat))), (12, .int .i64 ((F + 1 : Nat))), (11, .slice (some ⟨2, 0, none⟩) (l'.length - 1) 0), (2, .int .i64 b), (1, .int .i64 (k : Nat))], [(2, .vec 273 5 (bkQL (l'.take F ++ x :: l'.drop (F + 2)))), (5, .deep (entK B0 l (l'.take F ++ x :: l'.drop (F + 2))))], [5, 4, 3, 2, 1, 0], 142⟩) (l0 := l) (lA := l'.take F) (lB := l'.drop (F + 2)) (m := mgB L X.e Y.e) (fun p w h => ⟨fun b hb => h.1 b (sub_td hb), fun g ⟨b, hb, hg⟩ => h.2.1 g ⟨b, sub_td hb, hg⟩, h.2.2⟩) rfl rfl rfl rfl rfl rfl (fun x hx => ⟨x, hx, rfl⟩)) ?_
        rintro _ ⟨x, hx, rfl⟩
        have hpn : (p.take F ++ [mgB L X.e Y.e]).length = F + 1 := by rw [List.length_append, List.length_take]; show min F p.length + 1 = _; omega
        refine RenS.of (s' := hdS B0 l k b (L + 1) (F + 1) (l'.length - 1) (l'.take F ++ x :: l'.drop (F + 2))) (Ren.mv (tabF [(3, 5)]) rfl (fun k hk => by match k, hk with | 0, _ => exact ⟨rfl, rfl⟩ | 1, _ => exact ⟨rfl, rfl⟩) ⟨⟨rfl, rfl⟩, ⟨rfl, rfl⟩, ⟨rfl, rfl⟩, ⟨rfl, rfl⟩, ⟨rfl, rfl⟩, trivial⟩ ⟨⟨by rw [mv_bkr]; rfl, rfl, nb_bkQ _ _⟩, ⟨rfl, rfl, rfl⟩, trivial⟩ rfl) ⟨g, by omega, L + 1, p.take F ++ [mgB L X.e Y.e], mm ++ lo, l'.take F ++ x :: l'.drop (F + 2), l'.length - 1, ?_, ?_, ?_, by rw [hpn]; rfl⟩
        · have hfu := hI.fu
          have eApp : p.take F ++ [mgB L X.e Y.e] ++ (mm ++ lo) = p.take F ++ mgB L X.e Y.e :: (mm ++ lo) := by simp
          have ePl : p ++ lo = p.take F ++ X.e :: Y.e :: (mm ++ lo) := by
            have h9 : p ++ lo = (p.take F ++ X.e :: Y.e :: mm) ++ lo := by rw [← hpl]
            rw [h9]; simp
          refine ⟨by rw [hpn]; omega, by simp, by rw [hpn]; omega, by rw [← List.append_assoc]; exact hres, fun e he => ?_, ?_, ?_, hco⟩
          · rw [eApp] at he
            rcases List.mem_append.1 he with he | he
            · exact hI.ok e (by rw [ePl]; exact List.mem_append.2 (.inl he))
            · rcases List.mem_cons.1 he with rfl | he
              · exact mgB_ok okX okY lX lY
              · exact hI.ok e (by rw [ePl]; exact List.mem_append.2 (.inr (List.mem_cons_of_mem _ (List.mem_cons_of_mem _ he))))
          · rw [eApp, totE_mid _ _ X.e Y.e _ (by show 2 ^ (L + 1) = _; rw [lX, lY, Nat.pow_succ]; omega), ← ePl]; exact hI.tot
          · have h9 := hI.len
            rw [ePl] at h9
            rw [eApp]
            simp only [List.length_append, List.length_cons] at h9 ⊢
            omega
        · rw [List.map_append, List.map_cons, hx, hmA, hmB]; simp
        · rw [List.length_append, List.length_cons, hBl, hAF]; omega
    · have z0 : decide ((n : Int) > 0) = true := by simp only [decide_eq_true_eq]; omega
      have wn : IntKind.i64.wrap ((n : Int) - 1) = ((n - 1 : Nat) : Int) := by rw [IntWalk.i64_in _ (by omega)]; omega
      obtain ⟨X0, hX0⟩ : ∃ x, l[n - 1]? = some x := ⟨l[n - 1]'(by omega), List.getElem?_eq_getElem (by omega)⟩
      have z1 : decide (X0.e.t > t) = false := by have := hlast X0.e (List.mem_map_of_mem (List.mem_of_getElem? hX0)); simp only [decide_eq_false_iff_not]; omega
      repeat' (first | rw [d1] | rw [d2] | rw [d3] | rw [d4] | rw [d5] | rw [z0] | rw [z1] | rw [wn] | refine AR.auto rfl ?_ | refine AR.man (AOk.callBLF (fun s => [s, .int .i64 ((k : Nat)), .int .i64 b]) 0 1 n l hFk (fun w A c h => qd_valid l n k b hn k1 k2 b1 b2 hd w A c h) ent182 rfl rfl rfl (fun _ => rfl) rfl rfl rfl rfl hl rfl) rfl rfl rfl ?_ | refine AR.man (AOk.callBLF (fun s => [s]) 0 1 n l hFk (fun w A c h => qb_btotal l n hn (by omega) (fun e he => (hd.vb.rng e he).2) w A c h) ent127 rfl rfl rfl (fun _ => rfl) rfl rfl rfl rfl hl rfl) rfl rfl rfl ?_ | refine AR.man (okb_idx (A0 := 0) (i := n - 1) rfl rfl rfl rfl (nonE_bkv 5 (by omega)) (by omega)) rfl rfl rfl ?_ | refine AR.man (ok_ld (A0 := 0) (u := X0.e.t) rfl rfl rfl (by show (bkQL l)[_]? = _; rw [show 0 + (n - 1) * 5 + 0 = (n - 1) * 5 + 0 from (by omega), bkQL_at l (n - 1) 0 X0 hX0 (by decide)]; rfl)) rfl rfl rfl ?_ | refine AR.man (okb_app 3 (D := 2) (Y := 0) (oy := 0) (len := 0) (m := n) (L' := n) (C := []) (C' := bkQL l) (news := bkQL l) (b := .view 5 (bkQL l)) (Nat.zero_add n) (by omega) rfl rfl rfl rfl rfl rfl rfl rfl rfl (by simp) (fun j v h => by rw [Nat.zero_add]; exact h) (by rw [bkQL_len, hl]) (one_bkQ l) (by simp)) rfl rfl rfl ?_ | refine AR.man (AOk.callOD (fun s => .agg #[.int .i64 1, s]) 4 1 B0 [v] (σ := [(1, .deep (entK B0 l l))]) (vs := [.int .i64 v]) rfl (fun B ρ w hB hσ => ⟨(box_deep_at (hσ 1 _ List.mem_cons_self)).2.2, qg_single v w⟩) ent184 rfl rfl rfl (fun n b h => by simp at h; obtain ⟨rfl, rfl⟩ := h; rfl) rfl (fun _ => rfl) rfl) rfl rfl rfl ?_ | refine AR.man (okb_app 6 (D := 3) (Y := 5) (oy := 0) (len := n) (m := 1) (L' := n + 1) (C := bkQL l) (C' := bkQL l ++ bkN 4 ⟨t, v, 0, [v]⟩ ++ bkQL []) (news := bkN 4 ⟨t, v, 0, [v]⟩) rfl (by omega) rfl rfl rfl rfl rfl rfl rfl rfl rfl (Nat.le_of_eq (by rw [bkQL_len, hl])) (fun j v h => by rw [Nat.zero_add]; exact h) rfl (fun u hu => by simp only [bkN, List.mem_cons, List.not_mem_nil, or_false] at hu; rcases hu with rfl | rfl | rfl | rfl | rfl <;> rfl) (by rw [List.take_of_length_le (by rw [bkQL_len, hl]; exact Nat.le_refl _)]; simp [bkQL])) rfl rfl rfl ?_ | refine AR.nil ?_ | refine KF.mk ?_ | refine KT.mk (by kernel_rfl) ?_ | refine SQ.normal ?_ | refine AC.seq ?_ | refine AC.regF ?_ | refine AC.regT ?_ | refine AC.condT rfl ?_ | refine AC.condF rfl ?_ | refine AC.block ?_ | refine BQ.normal ?_ | refine BQ.ret ?_ | refine BQ.here ?_ | refine BQ.there rfl ?_ | refine SQ.ret ?_ | refine SQ.exit ?_ | refine AC.ret ?_ | refine AC.exit ?_ | refine AC.skip ?_ | (refine AR.split rfl (fun h => ?_) (fun h => ?_) <;> rw [h]) | (refine AC.cond rfl (fun h => ?_) (fun h => ?_) <;> rw [h]) | refine FQ.ret rfl rfl ?_ | refine FQ.normal rfl rfl ?_)
      refine AC.loopS (fun m st => ∃ L p lo l' Q, InvI k b (insE k (l.map Bk.e) t v) m L p lo ∧ l'.map Bk.e = p ++ lo ∧ l'.length = Q ∧ st = hdS B0 l k b L p.length Q l') ?_ ?_
      · refine RenS.trans (s' := ⟨[(13, .int .i64 ((0 : Nat))), (12, .int .i64 ((n + 1 : Nat))), (11, .slice (some ⟨2, 0, none⟩) (n + 1) 0), (2, .int .i64 b), (1, .int .i64 (k : Nat))], [(2, .vec 273 5 (bkQL l ++ bkN 3 ⟨t, v, 0, [v]⟩ ++ bkQL [])), (3, .deep (ownF B0 [v])), (1, .deep (entK B0 l l))], [3, 2, 1, 0], 142⟩) (Ren.mv (tabF [(2, 6), (3, 4)]) rfl (fun k hk => by match k, hk with | 0, _ => exact ⟨rfl, rfl⟩ | 1, _ => exact ⟨rfl, rfl⟩) ⟨⟨rfl, rfl⟩, ⟨rfl, rfl⟩, ⟨rfl, rfl⟩, ⟨rfl, rfl⟩, ⟨rfl, rfl⟩, trivial⟩ ⟨⟨by rw [mv_mix]; rfl, rfl, nb_mix rfl⟩, ⟨rfl, rfl, rfl⟩, ⟨rfl, rfl, rfl⟩, trivial⟩ rfl) ?_
        refine RenS.bind (RenS.quote (S := fun st => ∃ x : Bk, x.e = ⟨t, v, 0, [v]⟩ ∧ st = ⟨[(13, .int .i64 ((0 : Nat))), (12, .int .i64 ((n + 1 : Nat))), (11, .slice (some ⟨2, 0, none⟩) (n + 1) 0), (2, .int .i64 b), (1, .int .i64 (k : Nat))], [(2, .vec 273 5 (bkQL (l ++ [x]))), (4, .deep (entK B0 l (l ++ [x])))], [4, 3, 2, 1, 0], 142⟩) (l0 := l) (lA := l) (lB := []) (m := ⟨t, v, 0, [v]⟩) (fun p w h => by rw [List.append_nil]; exact h) rfl rfl rfl rfl rfl rfl (fun x hx => ⟨x, hx, rfl⟩)) ?_
        rintro _ ⟨x, hx, rfl⟩
        have hmx : (l ++ [x]).map Bk.e = l.map Bk.e ++ [⟨t, v, 0, [v]⟩] := by rw [List.map_append, List.map_cons, List.map_nil, hx]
        refine RenS.of (s' := hdS B0 l k b 0 (n + 1) (n + 1) (l ++ [x])) (Ren.mv (tabF [(3, 4)]) rfl (fun k hk => by match k, hk with | 0, _ => exact ⟨rfl, rfl⟩ | 1, _ => exact ⟨rfl, rfl⟩) ⟨⟨rfl, rfl⟩, ⟨rfl, rfl⟩, ⟨rfl, rfl⟩, ⟨rfl, rfl⟩, ⟨rfl, rfl⟩, trivial⟩ ⟨⟨by rw [mv_bkr]; rfl, rfl, nb_bkQ _ _⟩, ⟨rfl, rfl, rfl⟩, trivial⟩ rfl) ⟨n + 1, 0, l.map Bk.e ++ [⟨t, v, 0, [v]⟩], [], l ++ [x], n + 1, ?_, by rw [hmx, List.append_nil], by simp [hl], by simp [hl]⟩
        refine ⟨by simp [hl], by simp, by simp [hl]; omega, ?_, ?_, ?_, by simp [hl]; omega, hc⟩
        · rw [List.append_nil]; unfold insE; rw [List.length_map, hl]
        · intro e he
          rw [List.append_nil] at he
          rcases List.mem_append.1 he with he | he
          · exact hd.ok e he
          · rw [List.mem_singleton] at he; subst he
            exact ⟨rfl, List.pairwise_singleton _ _, fun u hu => by rw [List.mem_singleton] at hu; subst hu; exact ⟨v0, v1⟩, List.mem_singleton.2 rfl⟩
        · rw [List.append_nil, totE_app]; show totE (l.map Bk.e) + (2 ^ 0 + 0) ≤ 900; omega
      intro m st hi
      obtain ⟨L, p, lo, l', Q, hI, hm', rfl, rfl⟩ := hi
      have hlen : l'.length = (p ++ lo).length := by rw [← hm', List.length_map]
      rw [List.length_append] at hlen
      have hle := hI.len
      rw [List.length_append] at hle
      have hlp := hI.lp
      have hp0 : 0 < p.length := List.length_pos_iff.2 hI.ne
      have hf0 := fst_le L p p.length
      unfold hdS
      refine AC.seq ?_
      refine AC.block ?_
      repeat' (first | refine AR.auto rfl ?_ | refine AR.nil ?_ | refine KF.mk ?_ | refine KT.mk (by kernel_rfl) ?_ | refine SQ.normal ?_ | refine AC.seqG ?_ | refine AC.regF ?_ | refine AC.regT ?_ | refine AC.condT rfl ?_ | refine AC.condF rfl ?_ | refine AC.block ?_ | refine BQ.normal ?_ | refine BQ.ret ?_ | refine BQ.here ?_ | refine BQ.there rfl ?_ | refine SQ.ret ?_ | refine SQ.exit ?_ | refine AC.ret ?_ | refine AC.exit ?_ | refine AC.skip ?_ | (refine AR.split rfl (fun h => ?_) (fun h => ?_) <;> rw [h]) | (refine AC.cond rfl (fun h => ?_) (fun h => ?_) <;> rw [h]) | refine FQ.ret rfl rfl ?_ | refine FQ.normal rfl rfl ?_)
      refine AC.seqX (⟨[(14, .int .i64 ((fst L p p.length : Nat))), (13, .int .i64 (L : Nat)), (12, .int .i64 (p.length : Nat)), (11, .slice (some ⟨2, 0, none⟩) l'.length 0), (2, .int .i64 b), (1, .int .i64 (k : Nat))], [(2, .vec 273 5 (bkQL l')), (3, .deep (entK B0 l l'))], [3, 2, 1, 0], 142⟩) ?_ ?_
      · refine AC.block ?_
        refine AC.loop (fun i st => i ≤ p.length ∧ fst L p i = fst L p p.length ∧ st = ⟨[(14, .int .i64 ((i : Nat))), (13, .int .i64 (L : Nat)), (12, .int .i64 (p.length : Nat)), (11, .slice (some ⟨2, 0, none⟩) l'.length 0), (2, .int .i64 b), (1, .int .i64 (k : Nat))], [(2, .vec 273 5 (bkQL l')), (3, .deep (entK B0 l l'))], [3, 2, 1, 0], 142⟩) p.length _ ?_ ⟨Nat.le_refl _, rfl, rfl⟩ ?_
        · exact Ren.mv (tabF []) rfl (fun k hk => by match k, hk with | 0, _ => exact ⟨rfl, rfl⟩ | 1, _ => exact ⟨rfl, rfl⟩) ⟨⟨rfl, rfl⟩, ⟨rfl, rfl⟩, ⟨rfl, rfl⟩, ⟨rfl, rfl⟩, ⟨rfl, rfl⟩, ⟨rfl, rfl⟩, trivial⟩ ⟨⟨by rw [mv_bkr]; rfl, rfl, nb_bkQ _ _⟩, ⟨rfl, rfl, rfl⟩, trivial⟩ rfl
        rintro i st ⟨hi1, hi2, rfl⟩
        by_cases hi0 : i = 0
        · have z0 : decide ((i : Int) > 0) = false := by simp only [decide_eq_false_iff_not]; omega
          have hf : fst L p p.length = i := by rw [← hi2, hi0]; rfl
          repeat' (first | rw [z0] | refine AR.auto rfl ?_ | refine AR.nil ?_ | refine KF.mk ?_ | refine KT.mk (by kernel_rfl) ?_ | refine SQ.normal ?_ | refine AC.seq ?_ | refine AC.regF ?_ | refine AC.regT ?_ | refine AC.condT rfl ?_ | refine AC.condF rfl ?_ | refine AC.block ?_ | refine BQ.normal ?_ | refine BQ.ret ?_ | refine BQ.here ?_ | refine BQ.there rfl ?_ | refine SQ.ret ?_ | refine SQ.exit ?_ | refine AC.ret ?_ | refine AC.exit ?_ | refine AC.skip ?_ | (refine AR.split rfl (fun h => ?_) (fun h => ?_) <;> rw [h]) | (refine AC.cond rfl (fun h => ?_) (fun h => ?_) <;> rw [h]) | refine FQ.ret rfl rfl ?_ | refine FQ.normal rfl rfl ?_)
          rw [hf]
          exact RenS.of (s' := ⟨[(14, .int .i64 ((i : Nat))), (13, .int .i64 (L : Nat)), (12, .int .i64 (p.length : Nat)), (11, .slice (some ⟨2, 0, none⟩) l'.length 0), (2, .int .i64 b), (1, .int .i64 (k : Nat))], [(2, .vec 273 5 (bkQL l')), (3, .deep (entK B0 l l'))], [3, 2, 1, 0], 142⟩) (Ren.mv (tabF []) rfl (fun k hk => by match k, hk with | 0, _ => exact ⟨rfl, rfl⟩ | 1, _ => exact ⟨rfl, rfl⟩) ⟨⟨rfl, rfl⟩, ⟨rfl, rfl⟩, ⟨rfl, rfl⟩, ⟨rfl, rfl⟩, ⟨rfl, rfl⟩, ⟨rfl, rfl⟩, trivial⟩ ⟨⟨by rw [mv_bkr]; rfl, rfl, nb_bkQ _ _⟩, ⟨rfl, rfl, rfl⟩, trivial⟩ rfl) rfl
        · have z0 : decide ((i : Int) > 0) = true := by simp only [decide_eq_true_eq]; omega
          have w4 : IntKind.i64.wrap ((i : Int) - 1) = ((i - 1 : Nat) : Int) := by rw [IntWalk.i64_in _ (by omega)]; omega
          obtain ⟨x, hx⟩ : ∃ x, l'[i - 1]? = some x := ⟨l'[i - 1]'(by omega), List.getElem?_eq_getElem (by omega)⟩
          have hxp : p[i - 1]? = some x.e := by
            have h9 : (l'.map Bk.e)[i - 1]? = some x.e := by rw [List.getElem?_map, hx]; rfl
            rw [hm', List.getElem?_append_left (by omega)] at h9; exact h9
          have hfs : fst L p i = if x.e.lv = L then fst L p (i - 1) else i := by
            obtain ⟨j, rfl⟩ : ∃ j, i = j + 1 := ⟨i - 1, by omega⟩
            rw [fst]
            have h9 : p[j]? = some x.e := hxp
            rw [h9]; rfl
          by_cases hlv : x.e.lv = L
          · have z1 : (((x.e.lv : Nat) : Int) == (L : Int)) = true := by rw [beq_iff_eq]; omega
            rw [if_pos hlv] at hfs
            repeat' (first | rw [z0] | rw [w4] | rw [z1] | refine AR.auto rfl ?_ | refine AR.man (okb_idx (A0 := 2) (i := i - 1) rfl rfl rfl rfl (nonE_bkr 273 5 (by omega)) (by omega)) rfl rfl rfl ?_ | refine AR.man (ok_ld3 (A0 := 2) (u := ((x.e.lv : Nat) : Int)) rfl rfl rfl (by show (bkQL l')[_]? = _; rw [show 0 + (i - 1) * 5 + 2 = (i - 1) * 5 + 2 from (by omega), bkQL_at l' (i - 1) 2 x hx (by decide)]; rfl)) rfl rfl rfl ?_ | refine AR.nil ?_ | refine KF.mk ?_ | refine KT.mk (by kernel_rfl) ?_ | refine SQ.normal ?_ | refine AC.seq ?_ | refine AC.regF ?_ | refine AC.regT ?_ | refine AC.condT rfl ?_ | refine AC.condF rfl ?_ | refine AC.block ?_ | refine BQ.normal ?_ | refine BQ.ret ?_ | refine BQ.here ?_ | refine BQ.there rfl ?_ | refine SQ.ret ?_ | refine SQ.exit ?_ | refine AC.ret ?_ | refine AC.exit ?_ | refine AC.skip ?_ | (refine AR.split rfl (fun h => ?_) (fun h => ?_) <;> rw [h]) | (refine AC.cond rfl (fun h => ?_) (fun h => ?_) <;> rw [h]) | refine FQ.ret rfl rfl ?_ | refine FQ.normal rfl rfl ?_)
            refine ⟨i - 1, _, by omega, ?_, by omega, by rw [← hfs]; exact hi2, rfl⟩
            exact Ren.mv (tabF []) rfl (fun k hk => by match k, hk with | 0, _ => exact ⟨rfl, rfl⟩ | 1, _ => exact ⟨rfl, rfl⟩) ⟨⟨rfl, rfl⟩, ⟨rfl, rfl⟩, ⟨rfl, rfl⟩, ⟨rfl, rfl⟩, ⟨rfl, rfl⟩, ⟨rfl, rfl⟩, trivial⟩ ⟨⟨by rw [mv_bkr]; rfl, rfl, nb_bkQ _ _⟩, ⟨rfl, rfl, rfl⟩, trivial⟩ rfl
          · have z1 : (((x.e.lv : Nat) : Int) == (L : Int)) = false := by rw [beq_eq_false_iff_ne]; omega
            rw [if_neg hlv] at hfs
            have hf : fst L p p.length = i := by rw [← hi2, hfs]
            repeat' (first | rw [z0] | rw [w4] | rw [z1] | refine AR.auto rfl ?_ | refine AR.man (okb_idx (A0 := 2) (i := i - 1) rfl rfl rfl rfl (nonE_bkr 273 5 (by omega)) (by omega)) rfl rfl rfl ?_ | refine AR.man (ok_ld3 (A0 := 2) (u := ((x.e.lv : Nat) : Int)) rfl rfl rfl (by show (bkQL l')[_]? = _; rw [show 0 + (i - 1) * 5 + 2 = (i - 1) * 5 + 2 from (by omega), bkQL_at l' (i - 1) 2 x hx (by decide)]; rfl)) rfl rfl rfl ?_ | refine AR.nil ?_ | refine KF.mk ?_ | refine KT.mk (by kernel_rfl) ?_ | refine SQ.normal ?_ | refine AC.seq ?_ | refine AC.regF ?_ | refine AC.regT ?_ | refine AC.condT rfl ?_ | refine AC.condF rfl ?_ | refine AC.block ?_ | refine BQ.normal ?_ | refine BQ.ret ?_ | refine BQ.here ?_ | refine BQ.there rfl ?_ | refine SQ.ret ?_ | refine SQ.exit ?_ | refine AC.ret ?_ | refine AC.exit ?_ | refine AC.skip ?_ | (refine AR.split rfl (fun h => ?_) (fun h => ?_) <;> rw [h]) | (refine AC.cond rfl (fun h => ?_) (fun h => ?_) <;> rw [h]) | refine FQ.ret rfl rfl ?_ | refine FQ.normal rfl rfl ?_)
            rw [hf]
            exact RenS.of (s' := ⟨[(14, .int .i64 ((i : Nat))), (13, .int .i64 (L : Nat)), (12, .int .i64 (p.length : Nat)), (11, .slice (some ⟨2, 0, none⟩) l'.length 0), (2, .int .i64 b), (1, .int .i64 (k : Nat))], [(2, .vec 273 5 (bkQL l')), (3, .deep (entK B0 l l'))], [3, 2, 1, 0], 142⟩) (Ren.mv (tabF []) rfl (fun k hk => by match k, hk with | 0, _ => exact ⟨rfl, rfl⟩ | 1, _ => exact ⟨rfl, rfl⟩) ⟨⟨rfl, rfl⟩, ⟨rfl, rfl⟩, ⟨rfl, rfl⟩, ⟨rfl, rfl⟩, ⟨rfl, rfl⟩, ⟨rfl, rfl⟩, trivial⟩ ⟨⟨by rw [mv_bkr]; rfl, rfl, nb_bkQ _ _⟩, ⟨rfl, rfl, rfl⟩, trivial⟩ rfl) rfl
      have w1 : IntKind.i64.wrap ((p.length : Int) - ((fst L p p.length : Nat) : Int)) = ((p.length - fst L p p.length : Nat) : Int) := by rw [IntWalk.i64_in _ (by omega)]; omega
      have w2 : IntKind.i64.wrap ((k : Int) + 2) = ((k + 2 : Nat) : Int) := by rw [IntWalk.i64_in _ (by omega)]; rfl
      by_cases hst : p.length - fst L p p.length < k + 2
      · have d : decide (((p.length - fst L p p.length : Nat) : Int) < ((k + 2 : Nat) : Int)) = true := by simp only [decide_eq_true_eq]; omega
        repeat' (first | rw [w1] | rw [w2] | rw [d] | refine AR.auto rfl ?_ | refine AR.nil ?_ | refine KF.mk ?_ | refine KT.mk (by kernel_rfl) ?_ | refine SQ.normal ?_ | refine AC.seq ?_ | refine AC.regF ?_ | refine AC.regT ?_ | refine AC.condT rfl ?_ | refine AC.condF rfl ?_ | refine AC.block ?_ | refine BQ.normal ?_ | refine BQ.ret ?_ | refine BQ.here ?_ | refine BQ.there rfl ?_ | refine SQ.ret ?_ | refine SQ.exit ?_ | refine AC.ret ?_ | refine AC.exit ?_ | refine AC.skip ?_ | (refine AR.split rfl (fun h => ?_) (fun h => ?_) <;> rw [h]) | (refine AC.cond rfl (fun h => ?_) (fun h => ?_) <;> rw [h]) | refine FQ.ret rfl rfl ?_ | refine FQ.normal rfl rfl ?_)
        exact ⟨l', by rw [hm', ← hI.res, casc_stop hst], rfl, rfl, rfl⟩
      · obtain ⟨F, hF⟩ : ∃ F, fst L p p.length = F := ⟨_, rfl⟩
        obtain ⟨g, rfl⟩ : ∃ g, m = g + 1 := ⟨m - 1, by have := hI.fu; omega⟩
        obtain ⟨x, y, mm, hdr⟩ : ∃ x y mm, p.drop (fst L p p.length) = x :: y :: mm := by
          have h9 : (p.drop (fst L p p.length)).length = p.length - fst L p p.length := List.length_drop
          match hh : p.drop (fst L p p.length) with
          | [] => rw [hh] at h9; simp at h9; omega
          | [_] => rw [hh] at h9; simp at h9; omega
          | x :: y :: mm => exact ⟨x, y, mm, rfl⟩
        have hml : p.length - fst L p p.length = mm.length + 2 := by
          rw [← List.length_drop, hdr]; rfl
        have hkm : k ≤ mm.length := by omega
        obtain ⟨hb2, hco⟩ := cOK_go hdr hkm hI.cok
        have hres := hI.res
        rw [casc_go hdr hkm] at hres
        have hfl := fst_lv L p p.length
        rw [hF] at hdr hml hco hres hfl w1 hst hf0 ⊢
        have hl'd : l'.drop F = (l'.drop F) := rfl
        have hpx : p[F]? = some x := by have := congrArg (·[0]?) hdr; simpa using this
        have hpy : p[F + 1]? = some y := by have := congrArg (·[1]?) hdr; simpa using this
        obtain ⟨X, hX⟩ : ∃ X, l'[F]? = some X := ⟨l'[F]'(by omega), List.getElem?_eq_getElem (by omega)⟩
        obtain ⟨Y, hY⟩ : ∃ Y, l'[F + 1]? = some Y := ⟨l'[F + 1]'(by omega), List.getElem?_eq_getElem (by omega)⟩
        obtain rfl : x = X.e := by
          have h9 : (l'.map Bk.e)[F]? = some X.e := by rw [List.getElem?_map, hX]; rfl
          rw [hm', List.getElem?_append_left (by omega), hpx] at h9; exact Option.some.inj h9
        obtain rfl : y = Y.e := by
          have h9 : (l'.map Bk.e)[F + 1]? = some Y.e := by rw [List.getElem?_map, hY]; rfl
          rw [hm', List.getElem?_append_left (by omega), hpy] at h9; exact Option.some.inj h9
        have hXl := List.mem_of_getElem? hX
        have hYl := List.mem_of_getElem? hY
        have okX := hI.ok _ (List.mem_append.2 (.inl (List.mem_of_getElem? hpx)))
        have okY := hI.ok _ (List.mem_append.2 (.inl (List.mem_of_getElem? hpy)))
        have lX := hfl F _ (Nat.le_refl _) (by omega) hpx
        have lY := hfl (F + 1) _ (by omega) (by omega) hpy
        have nX : X.e.vs.length = 2 ^ L := by rw [okX.len, lX]
        have nY : Y.e.vs.length = 2 ^ L := by rw [okY.len, lY]
        have hpow : 2 ^ L ≤ 900 := by
          have := pow_le_tot (List.mem_append.2 (.inl (List.mem_of_getElem? hpx)) : X.e ∈ p ++ lo)
          rw [lX] at this; exact Nat.le_trans this hI.tot
        have hpos := Nat.two_pow_pos L
        have nZ : (mg X.e.vs Y.e.vs).length = 2 ^ (L + 1) := by rw [mg_len, nX, nY, Nat.pow_succ]; omega
        have hsum : 2 ^ (L + 1) ≤ 900 := by
          have h9 := totE_app (p.take F) (p.drop F)
          rw [List.take_append_drop, hdr, totE, totE, lX, lY] at h9
          have h8 := totE_app p lo
          have h7 := hI.tot
          rw [Nat.pow_succ]; omega
        have aZ : Asc (mg X.e.vs Y.e.vs) := mg_asc _ _ _ (Nat.le_refl _) okX.asc okY.asc
        have hAF : (l'.take F).length = F := by rw [List.length_take]; omega
        have hdd : l'.drop F = X :: Y :: l'.drop (F + 2) := by
          rw [List.drop_eq_getElem_cons (by omega), List.drop_eq_getElem_cons (by omega)]
          have h1 := (List.getElem?_eq_some_iff.1 hX).2
          have h2 := (List.getElem?_eq_some_iff.1 hY).2
          rw [h1, h2]
        have hsp : bkQL l' = bkQL (l'.take F) ++ bkQ X ++ bkQL (Y :: l'.drop (F + 2)) := by
          rw [List.append_assoc, show bkQ X ++ bkQL (Y :: l'.drop (F + 2)) = bkQL (X :: Y :: l'.drop (F + 2)) from rfl, ← hdd, ← bkQL_app, List.take_append_drop]
        have hA5 : (bkQL (l'.take F)).length = F * 5 := by rw [bkQL_len, hAF]
        have hBl : (l'.drop (F + 2)).length = l'.length - (F + 2) := List.length_drop
        have hst1 : spl (bkQL l') (0 + F * 5) (bkN 8 (mgB L X.e Y.e)) = bkQL (l'.take F) ++ bkN 8 (mgB L X.e Y.e) ++ bkQL (Y :: l'.drop (F + 2)) := by
          rw [hsp, Nat.zero_add, ← hA5]; exact spl_mid _ _ _ _ rfl
        have hC5 : (bkQL (l'.take F) ++ bkN 8 (mgB L X.e Y.e) ++ bkQL (Y :: l'.drop (F + 2))).length = l'.length * 5 := by
          rw [List.length_append, List.length_append, hA5, bkQL_len, List.length_cons, hBl]
          show F * 5 + 5 + _ = _
          omega
        have hAN : (bkQL (l'.take F) ++ bkN 8 (mgB L X.e Y.e)).length = (F + 1) * 5 := by
          rw [List.length_append, hA5]; show F * 5 + 5 = _; omega
        have htk : (bkQL (l'.take F) ++ bkN 8 (mgB L X.e Y.e) ++ bkQL (Y :: l'.drop (F + 2))).take ((F + 1) * 5) = bkQL (l'.take F) ++ bkN 8 (mgB L X.e Y.e) := by
          rw [← hAN, List.take_left']
          rfl
        have hnew : ∀ (j : Nat) (v : Value), (bkQL (l'.drop (F + 2)))[j]? = some v → (bkQL (l'.take F) ++ bkN 8 (mgB L X.e Y.e) ++ bkQL (Y :: l'.drop (F + 2)))[(F + 2) * 5 + j]? = some v := fun j v hv => by
          rw [List.getElem?_append_right (by rw [hAN]; omega), hAN, show bkQL (Y :: l'.drop (F + 2)) = bkQ Y ++ bkQL (l'.drop (F + 2)) from rfl, List.getElem?_append_right (by show 5 ≤ _; omega)]
          rw [show (F + 2) * 5 + j - (F + 1) * 5 - (bkQ Y).length = j from by show (F + 2) * 5 + j - (F + 1) * 5 - 5 = j; omega]
          exact hv
        have d : decide (((p.length - F : Nat) : Int) < ((k + 2 : Nat) : Int)) = false := by simp only [decide_eq_false_iff_not]; omega
        have w5 : IntKind.i64.wrap ((F : Int) + 1) = ((F + 1 : Nat) : Int) := by rw [IntWalk.i64_in _ (by omega)]; rfl
        have w6 : IntKind.i64.wrap ((F : Int) + 2) = ((F + 2 : Nat) : Int) := by rw [IntWalk.i64_in _ (by omega)]; rfl
        have w7 : IntKind.i64.wrap ((L : Int) + 1) = ((L + 1 : Nat) : Int) := by rw [IntWalk.i64_in _ (by omega)]; rfl
        repeat' (first | rw [w1] | rw [w2] | rw [d] | rw [w5] | rw [w6] | rw [w7] | refine AR.auto rfl ?_ | refine AR.man (okb_idx (A0 := 2) (i := F) rfl rfl rfl rfl (nonE_bkr 273 5 (by omega)) (by omega)) rfl rfl rfl ?_ | refine AR.man (okb_idx (A0 := 2) (i := F + 1) rfl rfl rfl rfl (nonE_bkr 273 5 (by omega)) (by omega)) rfl rfl rfl ?_ | refine AR.man (okb_ld (m := X) rfl rfl rfl (fun jj u hu => by rw [show 0 + (F) * 5 + jj = (F) * 5 + jj from (by omega), show (Box.vec 273 5 (bkQL l')).cells = bkQL l' from rfl, bkQL_at l' (F) jj X hX (by have := (List.getElem?_eq_some_iff.1 hu).1; simpa [bkQ] using this)]; exact hu)) rfl rfl rfl ?_ | refine AR.man (okb_ld (m := Y) rfl rfl rfl (fun jj u hu => by rw [show 0 + (F + 1) * 5 + jj = (F + 1) * 5 + jj from (by omega), show (Box.vec 273 5 (bkQL l')).cells = bkQL l' from rfl, bkQL_at l' (F + 1) jj Y hY (by have := (List.getElem?_eq_some_iff.1 hu).1; simpa [bkQ] using this)]; exact hu)) rfl rfl rfl ?_ | refine AR.man (AOk.callOD (fun s => .tuple #[.agg #[.int .i64 (((mg X.e.vs Y.e.vs).length : Nat)), s], .int .i64 0]) 6 (mg X.e.vs Y.e.vs).length B0 (mg X.e.vs Y.e.vs) (σ := [(3, .deep (entK B0 l l'))]) (vs := [.agg #[.int .i64 ((X.e.vs.length : Nat)), .iface 0 (.slice X.A X.e.vs.length X.c)], .agg #[.int .i64 ((Y.e.vs.length : Nat)), .iface 0 (.slice Y.A Y.e.vs.length Y.c)]]) rfl (fun B ρ w hB hσ => ⟨(box_deep_at (hσ 3 _ List.mem_cons_self)).2.2, by rw [mg_len]; exact qg_merge X.e.vs Y.e.vs _ _ rfl rfl (by omega) (by omega) (by omega) (by omega) okX.asc okY.asc w _ _ _ _ ((box_deep_at (hσ 3 _ List.mem_cons_self)).1 X hXl).1 ((box_deep_at (hσ 3 _ List.mem_cons_self)).1 Y hYl).1⟩) ent185 rfl rfl rfl (fun n b h => by simp at h; obtain ⟨rfl, rfl⟩ := h; rfl) rfl (fun _ => rfl) rfl) rfl rfl rfl ?_ | refine AR.man (AOk.callOD (fun s => .tuple #[.agg #[.int .i64 (((mg X.e.vs Y.e.vs).length : Nat)), s], .int .i64 0]) 8 (mg X.e.vs Y.e.vs).length B0 (mg X.e.vs Y.e.vs) (σ := [(6, .deep (ownF B0 (mg X.e.vs Y.e.vs))), (3, .deep (entK B0 l l'))]) (vs := [.agg #[.int .i64 (((mg X.e.vs Y.e.vs).length : Nat)), .slice (some ⟨6, 0, none⟩) (mg X.e.vs Y.e.vs).length 0], .int .i64 b]) rfl (fun B ρ w hB hσ => ⟨(box_deep_at (hσ 3 _ (List.mem_cons_of_mem _ List.mem_cons_self))).2.2, by show Calls _ _ #[.agg #[_, rC ρ (.slice (some ⟨6, 0, none⟩) (mg X.e.vs Y.e.vs).length 0)], _] _ _; rw [plAd_slice]; exact qh_prune (mg X.e.vs Y.e.vs) _ b rfl (by omega) aZ b1 b2 (by rw [nZ]; exact hb2) w _ _ (box_deep_at (hσ 6 _ List.mem_cons_self)).1⟩) ent186 rfl rfl rfl (fun n b h => by simp at h; rcases h with ⟨rfl, rfl⟩ | ⟨rfl, rfl⟩ <;> rfl) rfl (fun _ => rfl) rfl) rfl rfl rfl ?_ | refine AR.man (okb_st (D := 2) (i := 0 + F * 5) (vs := bkN 8 (mgB L X.e Y.e)) rfl rfl rfl rfl rfl rfl (by rw [bkQL_len]; omega) hst1) rfl rfl rfl ?_ | refine AR.man (okb_sl (D := 2) (i := F + 1) rfl rfl rfl rfl hC5 (by omega) (by omega)) rfl rfl rfl ?_ | refine AR.man (okb_sr (D := 2) (i := F + 2) rfl rfl rfl rfl hC5 (by omega)) rfl rfl rfl ?_ | refine AR.man (okb_app 9 (D := 2) (Y := 2) (oy := (F + 2) * 5) (len := F + 1) (m := l'.length - (F + 2)) (L' := l'.length - 1) (news := bkQL (l'.drop (F + 2))) (C' := bkQL (l'.take F) ++ bkN 8 (mgB L X.e Y.e) ++ bkQL (l'.drop (F + 2))) (by omega) (by omega) rfl rfl rfl rfl rfl rfl rfl rfl rfl (by rw [hC5]; omega) hnew (by rw [bkQL_len, hBl]) (one_bkQ _) (by rw [htk])) rfl rfl rfl ?_ | refine AR.nil ?_ | refine KF.mk ?_ | refine KT.mk (by kernel_rfl) ?_ | refine SQ.normal ?_ | refine AC.seq ?_ | refine AC.regF ?_ | refine AC.regT ?_ | refine AC.condT rfl ?_ | refine AC.condF rfl ?_ | refine AC.block ?_ | refine BQ.normal ?_ | refine BQ.ret ?_ | refine BQ.here ?_ | refine BQ.there rfl ?_ | refine SQ.ret ?_ | refine SQ.exit ?_ | refine AC.ret ?_ | refine AC.exit ?_ | refine AC.skip ?_ | (refine AR.split rfl (fun h => ?_) (fun h => ?_) <;> rw [h]) | (refine AC.cond rfl (fun h => ?_) (fun h => ?_) <;> rw [h]) | refine FQ.ret rfl rfl ?_ | refine FQ.normal rfl rfl ?_)
        have hpl : p = p.take F ++ X.e :: Y.e :: mm := by rw [← hdr, List.take_append_drop]
        have hmA : (l'.take F).map Bk.e = p.take F := by rw [List.map_take, hm', List.take_append_of_le_length (by omega)]
        have hmB : (l'.drop (F + 2)).map Bk.e = mm ++ lo := by
          have h9 : p.drop (F + 2) = mm := by rw [← List.drop_drop, hdr]; rfl
          rw [List.map_drop, hm', List.drop_append_of_le_length (by omega), h9]
        refine RenS.trans (s' := ⟨[(13, .int .i64 ((L + 1 : Nat))), (12, .int .i64 ((F + 1 : Nat))), (11, .slice (some ⟨2, 0, none⟩) (l'.length - 1) 0), (2, .int .i64 b), (1, .int .i64 (k : Nat))], [(2, .vec 273 5 (bkQL (l'.take F) ++ bkN 4 (mgB L X.e Y.e) ++ bkQL (l'.drop (F + 2)))), (4, .deep (ownF B0 (mg X.e.vs Y.e.vs))), (3, .deep (entK B0 l l'))], [4, 3, 2, 1, 0], 142⟩) (Ren.mv (tabF [(2, 9), (4, 8)]) rfl (fun k hk => by match k, hk with | 0, _ => exact ⟨rfl, rfl⟩ | 1, _ => exact ⟨rfl, rfl⟩) ⟨⟨rfl, rfl⟩, ⟨rfl, rfl⟩, ⟨rfl, rfl⟩, ⟨rfl, rfl⟩, ⟨rfl, rfl⟩, trivial⟩ ⟨⟨by rw [mv_mix]; rfl, rfl, nb_mix rfl⟩, ⟨rfl, rfl, rfl⟩, ⟨rfl, rfl, rfl⟩, trivial⟩ rfl) ?_
        refine RenS.bind (RenS.quote (S := fun st => ∃ x : Bk, x.e = mgB L X.e Y.e ∧ st = ⟨[(13, .int .i64 ((L + 1 : Nat))), (12, .int .i64 ((F + 1 : Nat))), (11, .slice (some ⟨2, 0, none⟩) (l'.length - 1) 0), (2, .int .i64 b), (1, .int .i64 (k : Nat))], [(2, .vec 273 5 (bkQL (l'.take F ++ x :: l'.drop (F + 2)))), (5, .deep (entK B0 l (l'.take F ++ x :: l'.drop (F + 2))))], [5, 4, 3, 2, 1, 0], 142⟩) (l0 := l) (lA := l'.take F) (lB := l'.drop (F + 2)) (m := mgB L X.e Y.e) (fun p w h => ⟨fun b hb => h.1 b (sub_td hb), fun g ⟨b, hb, hg⟩ => h.2.1 g ⟨b, sub_td hb, hg⟩, h.2.2⟩) rfl rfl rfl rfl rfl rfl (fun x hx => ⟨x, hx, rfl⟩)) ?_
        rintro _ ⟨x, hx, rfl⟩
        have hpn : (p.take F ++ [mgB L X.e Y.e]).length = F + 1 := by rw [List.length_append, List.length_take]; show min F p.length + 1 = _; omega
        refine RenS.of (s' := hdS B0 l k b (L + 1) (F + 1) (l'.length - 1) (l'.take F ++ x :: l'.drop (F + 2))) (Ren.mv (tabF [(3, 5)]) rfl (fun k hk => by match k, hk with | 0, _ => exact ⟨rfl, rfl⟩ | 1, _ => exact ⟨rfl, rfl⟩) ⟨⟨rfl, rfl⟩, ⟨rfl, rfl⟩, ⟨rfl, rfl⟩, ⟨rfl, rfl⟩, ⟨rfl, rfl⟩, trivial⟩ ⟨⟨by rw [mv_bkr]; rfl, rfl, nb_bkQ _ _⟩, ⟨rfl, rfl, rfl⟩, trivial⟩ rfl) ⟨g, by omega, L + 1, p.take F ++ [mgB L X.e Y.e], mm ++ lo, l'.take F ++ x :: l'.drop (F + 2), l'.length - 1, ?_, ?_, ?_, by rw [hpn]; rfl⟩
        · have hfu := hI.fu
          have eApp : p.take F ++ [mgB L X.e Y.e] ++ (mm ++ lo) = p.take F ++ mgB L X.e Y.e :: (mm ++ lo) := by simp
          have ePl : p ++ lo = p.take F ++ X.e :: Y.e :: (mm ++ lo) := by
            have h9 : p ++ lo = (p.take F ++ X.e :: Y.e :: mm) ++ lo := by rw [← hpl]
            rw [h9]; simp
          refine ⟨by rw [hpn]; omega, by simp, by rw [hpn]; omega, by rw [← List.append_assoc]; exact hres, fun e he => ?_, ?_, ?_, hco⟩
          · rw [eApp] at he
            rcases List.mem_append.1 he with he | he
            · exact hI.ok e (by rw [ePl]; exact List.mem_append.2 (.inl he))
            · rcases List.mem_cons.1 he with rfl | he
              · exact mgB_ok okX okY lX lY
              · exact hI.ok e (by rw [ePl]; exact List.mem_append.2 (.inr (List.mem_cons_of_mem _ (List.mem_cons_of_mem _ he))))
          · rw [eApp, totE_mid _ _ X.e Y.e _ (by show 2 ^ (L + 1) = _; rw [lX, lY, Nat.pow_succ]; omega), ← ePl]; exact hI.tot
          · have h9 := hI.len
            rw [ePl] at h9
            rw [eApp]
            simp only [List.length_append, List.length_cons] at h9 ⊢
            omega
        · rw [List.map_append, List.map_cons, hx, hmA, hmB]; simp
        · rw [List.length_append, List.length_cons, hBl, hAF]; omega
  )
  refine H.mono fun e w' he => ?_
  obtain ⟨u, st, ρ, a, ⟨l', h1, rfl, h2, h3⟩, rfl, hs⟩ := he
  have h4 : (insE k (l.map Bk.e) t v).length = l'.length := by rw [← h1, List.length_map]
  obtain ⟨A', c', e1, e2, e3⟩ := bk_out hs h2 h3 (n := l'.length) rfl
  rw [h4]
  exact ⟨A', c', l', h1, by rw [e1], e2, fun g hg => (e3 g hg).imp id Or.inr, hs.bl⟩
end Go.Proofs.YtbageimconenlaaGreat
