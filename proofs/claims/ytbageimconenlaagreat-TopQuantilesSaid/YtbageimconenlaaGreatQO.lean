/- Lists of blocks: Expire. | Lists of blocks: entries at a known place. -/
import Derived.Test.YtbageimconenlaaGreatQM
namespace Go.Proofs.YtbageimconenlaaGreat
open Go.RowKit En
set_option linter.unusedVariables false
theorem ent205 : Enters Tryz.prog 205 := enters Tryz.func205 (by kernel_rfl) (by kernel_rfl)
section
variable {P : Program} {tb : List (Nat × TI)} {I : Nat} {s : St} {Q : Exit → St → Prop}
theorem AC.seqS (S : St → Prop) {a b : Code} (h : AC P tb I a s (SQ (fun s' => RenS I s' S) Q)) (k : ∀ s2, S s2 → AC P tb I b s2 Q) : AC P tb I (.seq a b) s Q :=
  AC.seqR ⟨aCode_mono a (fun e s h => ⟨sQ_mono (fun s h => h.mono fun s2 e => k s2 e) (fun _ _ h => h) e s h.out⟩) h.out⟩
end
section
variable {s : St} {o : Oper} {c : Call}
theorem okw_fld {x : Operand} {T : TypeId} {b off : Nat} (ho : o.op = .fieldAddr 273 x 0) (hx : ev s x = some (.iface T (.pointer (some ⟨b, off, none⟩)))) :
    AOk Tryz.prog s o ⟨rq s [x], []⟩ ⟨.iface 0 (.pointer (some ⟨b, off, none⟩)), [], []⟩ := by
  refine .quiet fun B => ⟨Does.value (fun al _ ρ ρ' _ => rfl) fun ρ a w hm => ?_, in_none, rfl, rfl⟩
  obtain ⟨_, _, hk⟩ := tblOK.at_ (t := 273) (ti := (En.lk tbl 273).get (by kernel_rfl)) (by kernel_rfl)
  obtain ⟨fs, hu, hfl⟩ : ∃ fs, Tryz.prog.underlying 273 = some (.struct fs) ∧ flds Tryz.prog fs.toList [(0, 1), (1, 1), (2, 1), (3, 2)] = true := hk
  obtain ⟨fl, i, hff, hfo, hi, hsz⟩ := flds_at (P := Tryz.prog) hfl (j := 0) (o := 0) (z := 1) rfl
  have hax := ev_eval hm List.mem_cons_self hx
  have hne : ¬ i.size = 0 := by omega
  have hf' : fs[0]? = some fl := by simpa using hff
  have hxr : rV ρ (.iface T (.pointer (some ⟨b, off, none⟩))) = .pointer (some ⟨b, off, none⟩) := rfl
  have hvr : rV ρ (.iface 0 (.pointer (some ⟨b, off, none⟩))) = .pointer (some ⟨b, off, none⟩) := rfl
  unfold execOp
  simp only [ho, hax, hxr, hvr, Instr.fieldAt, Sem.run_bind, run_underlying hu, Result.andThen_ok, hf', Instr.sureAddr, Sem.run_pure, fieldPlace, sizeOf, typeInfo, program]
  simp [Sem.run, hi, hne, add_ptr, hfo]
end
theorem bk_own {B o n : Nat} {ρ : Nat → Pl} {w : World} {l' : List Bk} (bo : BoxOK B ρ w o (.vec 273 5 (bkQL l'))) (hn : l'.length = n) :
    ∃ A' c', rC ρ (.slice (some ⟨o, 0, none⟩) n 0) = .slice A' n c' ∧ SL w A' n c' 5 (bkRL l') ∧ ∀ g, blkOf A' n g → B ≤ g := by
  obtain ⟨A', c', h1, h2⟩ := bkv_SL bo rfl rfl hn
  refine ⟨A', c', h1, h2, fun g hg => ?_⟩
  obtain ⟨h0, o', h3⟩ := hg
  obtain ⟨_, hb⟩ := bo
  rcases hb with ⟨_, _, h5⟩ | ⟨h5, h6, _⟩
  · have := congrArg List.length h5
    rw [bkQL_len, hn] at this; simp at this; omega
  · rw [plAd_slice] at h1
    injection h1 with e1 _ _
    rw [h3] at e1
    unfold plAd at e1
    rw [h5] at e1
    cases e1
    exact h6
def expE (lo : Int) (es : List Eb) : List Eb := es.dropWhile fun e => decide (e.t < lo)
theorem drop_exp {lo : Int} {es : List Eb} {j : Nat} {x : Eb} (hx : es[j]? = some x) : expE lo (es.drop j) = if x.t < lo then expE lo (es.drop (j + 1)) else es.drop j := by
  obtain ⟨h1, h2⟩ := List.getElem?_eq_some_iff.1 hx
  rw [List.drop_eq_getElem_cons h1, h2, expE, List.dropWhile_cons]
  by_cases h : x.t < lo
  · rw [if_pos h, if_pos (by simpa using h)]; rfl
  · rw [if_neg h, if_neg (by simpa using h)]
set_option maxRecDepth 100000 in
set_option maxHeartbeats 1000000 in
theorem qo_expire (l : List Bk) (n : Nat) (lo : Int) (hn : n ≤ 900) (w : World) (A : Option Addr) (c : Nat) (h : BL w A n c l) :
    Calls Tryz.prog 205 #[.slice A n c, .int .i64 lo] w (fun e w' => ∃ A' c' l', l'.map Bk.e = expE lo (l.map Bk.e) ∧ e = .returned (.slice A' (expE lo (l.map Bk.e)).length c') ∧ BL w' A' (expE lo (l.map Bk.e)).length c' l' ∧ (∀ g, fpL A' (expE lo (l.map Bk.e)).length l' g → w.heap.size ≤ g ∨ fpL A n l g) ∧ Below w.heap.size w w') := by
  have hl := h.len
  have H := fun_bq tblOK mixedP Tryz.func205 rfl h [.iface 0 (.slice A n c), .int .i64 lo] [.slice A n c, .int .i64 lo] rfl 21 [(0, .iface 0 (.slice A n c)), (1, .int .i64 lo)] rfl rfl (by kernel_rfl) rfl rfl (fun B0 u st => ∃ j, j ≤ n ∧ (l.map Bk.e).drop j = expE lo (l.map Bk.e) ∧ u = .slice (some ⟨3, 0, none⟩) (n - j) 0 ∧ En.lk st.σ 3 = some (.vec 273 5 (bkQL (l.drop j))) ∧ En.lk st.σ 0 = some (.deep (fullF B0 A n c l))) (fun B0 => by
    repeat' (first | refine AR.auto rfl ?_ | refine AR.nil ?_ | refine KF.mk ?_ | refine KT.mk (by kernel_rfl) ?_ | refine SQ.normal ?_ | refine AC.seqG ?_ | refine AC.regF ?_ | refine AC.regT ?_ | refine AC.condT rfl ?_ | refine AC.condF rfl ?_ | refine AC.block ?_ | refine BQ.normal ?_ | refine BQ.ret ?_ | refine BQ.here ?_ | refine BQ.there rfl ?_ | refine SQ.ret ?_ | refine SQ.exit ?_ | refine AC.ret ?_ | refine AC.exit ?_ | refine AC.skip ?_ | (refine AR.split rfl (fun h => ?_) (fun h => ?_) <;> rw [h]) | (refine AC.cond rfl (fun h => ?_) (fun h => ?_) <;> rw [h]) | refine FQ.ret rfl rfl ?_ | refine FQ.normal rfl rfl ?_)
    refine AC.seqS (fun st => ∃ j, j ≤ n ∧ (l.map Bk.e).drop j = expE lo (l.map Bk.e) ∧ st = ⟨[(0, .slice (some ⟨1, 0, none⟩) (n - j) 0)], [(1, .view 5 (bkQL (l.drop j))), (0, .deep (fullF B0 A n c l))], [1, 0], 21⟩) ?_ ?_
    · refine AC.block ?_
      refine AC.loop (fun m st => ∃ j A' c', m = n - j ∧ j ≤ n ∧ (∀ w, SL w A n c 5 (bkRL l) → SL w A' (n - j) c' 5 (bkRL (l.drop j))) ∧ expE lo ((l.map Bk.e).drop j) = expE lo (l.map Bk.e) ∧ st = ⟨[(1, .int .i64 lo), (0, .iface 0 (.slice A' (n - j) c'))], [(0, .deep (fullF B0 A n c l))], [0], 21⟩) n _ ?_ ⟨0, A, c, rfl, Nat.zero_le _, fun w h => h, rfl, rfl⟩ ?_
      · exact Ren.mv (tabF []) rfl (fun k hk => by match k, hk with | 0, _ => exact ⟨rfl, rfl⟩) ⟨⟨rfl, rfl⟩, ⟨rfl, rfl⟩, trivial⟩ ⟨⟨rfl, rfl, rfl⟩, trivial⟩ rfl
      rintro m st ⟨j, A', c', rfl, hj, hSL, hE, rfl⟩
      by_cases hjn : j = n
      · have z0 : decide (((n - j : Nat) : Int) > 0) = false := by simp only [decide_eq_false_iff_not]; omega
        have HE : (l.map Bk.e).drop j = expE lo (l.map Bk.e) := by rw [← hE, List.drop_eq_nil_of_le (by simp; omega)]; rfl
        repeat' (first | rw [z0] | refine AR.auto rfl ?_ | refine AR.man (okw_len rfl rfl rfl rfl rfl) rfl rfl rfl ?_ | refine AR.nil ?_ | refine KF.mk ?_ | refine KT.mk (by kernel_rfl) ?_ | refine SQ.normal ?_ | refine AC.seq ?_ | refine AC.regF ?_ | refine AC.regT ?_ | refine AC.condT rfl ?_ | refine AC.condF rfl ?_ | refine AC.block ?_ | refine BQ.normal ?_ | refine BQ.ret ?_ | refine BQ.here ?_ | refine BQ.there rfl ?_ | refine SQ.ret ?_ | refine SQ.exit ?_ | refine AC.ret ?_ | refine AC.exit ?_ | refine AC.skip ?_ | (refine AR.split rfl (fun h => ?_) (fun h => ?_) <;> rw [h]) | (refine AC.cond rfl (fun h => ?_) (fun h => ?_) <;> rw [h]) | refine FQ.ret rfl rfl ?_ | refine FQ.normal rfl rfl ?_)
        exact RenS.trans (s' := ⟨[(0, .iface 0 (.slice A' (n - j) c'))], [(0, .deep (fullF B0 A n c l))], [0], 21⟩) (Ren.mv (tabF []) rfl (fun k hk => by match k, hk with | 0, _ => exact ⟨rfl, rfl⟩) ⟨⟨rfl, rfl⟩, trivial⟩ ⟨⟨rfl, rfl, rfl⟩, trivial⟩ rfl) (RenS.of (Ren.name (e := 1) (l := l.drop j) (fun p w h => hSL w h.1.sl) rfl rfl) ⟨j, hj, HE, rfl⟩)
      · have z0 : decide (((n - j : Nat) : Int) > 0) = true := by simp only [decide_eq_true_eq]; omega
        obtain ⟨x, hx⟩ : ∃ x, l[j]? = some x := ⟨l[j]'(by omega), List.getElem?_eq_getElem (by omega)⟩
        have hxe : (l.map Bk.e)[j]? = some x.e := by rw [List.getElem?_map, hx]; rfl
        have hd := drop_exp (lo := lo) hxe
        have hS := hSL w h.sl
        obtain ⟨b, o, hA, _, _⟩ := hS.sl.2 (by omega)
        have hcell : ∀ p w, fullF B0 A n c l p w → w.cell? ⟨b, o + 0 * 5, none⟩ = some (.int .i64 x.e.t) := fun p w hp => by
          obtain ⟨b', o', hA', _, hc⟩ := (hSL w hp.1.sl).sl.2 (by omega)
          rw [hA] at hA'
          cases hA'
          refine hc 0 _ ?_
          rw [List.drop_eq_getElem_cons (by omega), (List.getElem?_eq_some_iff.1 hx).2]; rfl
        obtain ⟨A2, c2, hcut, hS2⟩ := hS.cut (by omega)
        by_cases hlt : x.e.t < lo
        · have z1 : decide (x.e.t < lo) = true := by simpa using hlt
          rw [if_pos hlt, hE] at hd
          have e1 : n - j - 1 = n - (j + 1) := by omega
          repeat' (first | rw [z0] | rw [z1] | rw [hcut] | rw [e1] | refine AR.auto rfl ?_ | refine AR.man (okw_len rfl rfl rfl rfl rfl) rfl rfl rfl ?_ | refine AR.man (okw_idx (i := 0) hA rfl rfl rfl (by omega)) rfl rfl rfl ?_ | refine AR.man (okw_fld rfl rfl) rfl rfl rfl ?_ | refine AR.man (okr_ld (e := 0) (F := fullF B0 A n c l) (u := x.e.t) rfl rfl rfl hcell) rfl rfl rfl ?_ | refine AR.man (okw_cut rfl rfl (by omega)) rfl rfl rfl ?_ | refine AR.nil ?_ | refine KF.mk ?_ | refine KT.mk (by kernel_rfl) ?_ | refine SQ.normal ?_ | refine AC.seq ?_ | refine AC.regF ?_ | refine AC.regT ?_ | refine AC.condT rfl ?_ | refine AC.condF rfl ?_ | refine AC.block ?_ | refine BQ.normal ?_ | refine BQ.ret ?_ | refine BQ.here ?_ | refine BQ.there rfl ?_ | refine SQ.ret ?_ | refine SQ.exit ?_ | refine AC.ret ?_ | refine AC.exit ?_ | refine AC.skip ?_ | (refine AR.split rfl (fun h => ?_) (fun h => ?_) <;> rw [h]) | (refine AC.cond rfl (fun h => ?_) (fun h => ?_) <;> rw [h]) | refine FQ.ret rfl rfl ?_ | refine FQ.normal rfl rfl ?_)
          rw [e1] at hS2
          refine ⟨n - (j + 1), _, by omega, ?_, j + 1, A2, c2, rfl, by omega, fun w h => by have h9 := hS2 w (hSL w h); rw [List.drop_drop] at h9; exact h9, hd.symm, rfl⟩
          exact Ren.mv (tabF []) rfl (fun k hk => by match k, hk with | 0, _ => exact ⟨rfl, rfl⟩) ⟨⟨rfl, rfl⟩, ⟨rfl, rfl⟩, trivial⟩ ⟨⟨rfl, rfl, rfl⟩, trivial⟩ rfl
        · have z1 : decide (x.e.t < lo) = false := by simpa using hlt
          rw [if_neg hlt, hE] at hd
          have HE : (l.map Bk.e).drop j = expE lo (l.map Bk.e) := hd.symm
          repeat' (first | rw [z0] | rw [z1] | refine AR.auto rfl ?_ | refine AR.man (okw_len rfl rfl rfl rfl rfl) rfl rfl rfl ?_ | refine AR.man (okw_idx (i := 0) hA rfl rfl rfl (by omega)) rfl rfl rfl ?_ | refine AR.man (okw_fld rfl rfl) rfl rfl rfl ?_ | refine AR.man (okr_ld (e := 0) (F := fullF B0 A n c l) (u := x.e.t) rfl rfl rfl hcell) rfl rfl rfl ?_ | refine AR.nil ?_ | refine KF.mk ?_ | refine KT.mk (by kernel_rfl) ?_ | refine SQ.normal ?_ | refine AC.seq ?_ | refine AC.regF ?_ | refine AC.regT ?_ | refine AC.condT rfl ?_ | refine AC.condF rfl ?_ | refine AC.block ?_ | refine BQ.normal ?_ | refine BQ.ret ?_ | refine BQ.here ?_ | refine BQ.there rfl ?_ | refine SQ.ret ?_ | refine SQ.exit ?_ | refine AC.ret ?_ | refine AC.exit ?_ | refine AC.skip ?_ | (refine AR.split rfl (fun h => ?_) (fun h => ?_) <;> rw [h]) | (refine AC.cond rfl (fun h => ?_) (fun h => ?_) <;> rw [h]) | refine FQ.ret rfl rfl ?_ | refine FQ.normal rfl rfl ?_)
          exact RenS.trans (s' := ⟨[(0, .iface 0 (.slice A' (n - j) c'))], [(0, .deep (fullF B0 A n c l))], [0], 21⟩) (Ren.mv (tabF []) rfl (fun k hk => by match k, hk with | 0, _ => exact ⟨rfl, rfl⟩) ⟨⟨rfl, rfl⟩, trivial⟩ ⟨⟨rfl, rfl, rfl⟩, trivial⟩ rfl) (RenS.of (Ren.name (e := 1) (l := l.drop j) (fun p w h => hSL w h.1.sl) rfl rfl) ⟨j, hj, HE, rfl⟩)
    · rintro _ ⟨j, hj, hE, rfl⟩
      have hlj : (l.drop j).length = n - j := by rw [List.length_drop, hl]
      repeat' (first | refine AR.auto rfl ?_ | refine AR.man (okb_app 3 (D := 2) (Y := 1) (oy := 0) (len := 0) (m := n - j) (L' := n - j) (C := []) (C' := bkQL (l.drop j)) (news := bkQL (l.drop j)) (b := .view 5 (bkQL (l.drop j))) (Nat.zero_add _) (by omega) rfl rfl rfl rfl rfl rfl rfl rfl rfl (by simp) (fun j v h => by rw [Nat.zero_add]; exact h) (by rw [bkQL_len, hlj]) (one_bkQ _) (by simp)) rfl rfl rfl ?_ | refine AR.nil ?_ | refine KF.mk ?_ | refine KT.mk (by kernel_rfl) ?_ | refine SQ.normal ?_ | refine AC.seq ?_ | refine AC.regF ?_ | refine AC.regT ?_ | refine AC.condT rfl ?_ | refine AC.condF rfl ?_ | refine AC.block ?_ | refine BQ.normal ?_ | refine BQ.ret ?_ | refine BQ.here ?_ | refine BQ.there rfl ?_ | refine SQ.ret ?_ | refine SQ.exit ?_ | refine AC.ret ?_ | refine AC.exit ?_ | refine AC.skip ?_ | (refine AR.split rfl (fun h => ?_) (fun h => ?_) <;> rw [h]) | (refine AC.cond rfl (fun h => ?_) (fun h => ?_) <;> rw [h]) | refine FQ.ret rfl rfl ?_ | refine FQ.normal rfl rfl ?_)
      exact ⟨j, hj, hE, rfl, rfl, rfl⟩)
  refine H.mono fun e w' he => ?_
  obtain ⟨u, st, ρ, a, ⟨j, hj, hE, rfl, h2, h3⟩, rfl, hs⟩ := he
  have h4 : (expE lo (l.map Bk.e)).length = n - j := by rw [← hE, List.length_drop, List.length_map, hl]
  obtain ⟨fd, _, _⟩ := box_deep_at (hs.bx _ _ h3).1
  obtain ⟨A', c', e1, e2, e3⟩ := bk_own (hs.bx _ _ h2).1 (n := n - j) (by rw [List.length_drop, hl])
  rw [h4]
  exact ⟨A', c', l.drop j, by rw [List.map_drop, hE], by rw [show rV ρ (.slice (some ⟨3, 0, none⟩) (n - j) 0) = rC ρ (.slice (some ⟨3, 0, none⟩) (n - j) 0) from rfl, e1], ⟨e2, fun b hb => fd.es b (List.mem_of_mem_drop hb)⟩, fun g hg => hg.imp (e3 g) fun ⟨b, hb, h⟩ => Or.inr ⟨b, List.mem_of_mem_drop hb, h⟩, hs.bl⟩
end Go.Proofs.YtbageimconenlaaGreat
namespace Go.Proofs.YtbageimconenlaaGreat
open Go.RowKit En
set_option linter.unusedVariables false
end Go.Proofs.YtbageimconenlaaGreat
