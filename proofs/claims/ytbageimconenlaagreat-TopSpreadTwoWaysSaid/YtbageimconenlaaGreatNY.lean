/- Top: items run through a synopsis of the spread. -/
import Derived.Test.YtbageimconenlaaGreatNS
import Derived.Test.YtbageimconenlaaGreatNX
namespace Go.Proofs.YtbageimconenlaaGreat
open Go.RowKit En
set_option linter.unusedVariables false
namespace En
/-- a name for a nil slice in a row -/
theorem Ren.rnil {I : Nat} {s : St} (m t : Nat) (C C' : List Value) (e k q j : Nat) (hq : memB q s.al = false) (hm : lk s.σ m = some (.row t C)) (hC : C[j]? = some (.slice none 0 0)) (hC' : C.set j (.slice (some ⟨q, 0, none⟩) 0 0) = C') :
    Ren I s ⟨s.tm, (m, .row t C') :: (q, .vec e k []) :: s.σ, q :: s.al, s.nt⟩ := by
  have hq' : q ∉ s.al := fun hm => by rw [memB_iff.2 hm] at hq; cases hq
  refine ⟨rfl, fun c ρ a w hc hs => ?_⟩
  have hag : agr s.al (upd ρ q (pl4 0 0 0 true)) ρ := upd_agr ρ _ hq'
  obtain ⟨hb1, hb2, hb3⟩ := hs.bx m _ hm
  have hmq : m ≠ q := fun e => hq' (e ▸ hb2)
  have hrow : ∀ n b, lk ((m, Box.row t C') :: (q, Box.vec e k []) :: s.σ) n = some b → (n = m ∧ b = .row t C') ∨ (n = q ∧ b = .vec e k []) ∨ (n ≠ m ∧ n ≠ q ∧ lk s.σ n = some b) := fun n b hb => by
    rw [lk_cons] at hb
    split at hb
    · rename_i e1; subst e1; cases hb; exact .inl ⟨rfl, rfl⟩
    · rw [lk_cons] at hb
      split at hb
      · rename_i e1; subst e1; cases hb; exact .inr (.inl ⟨rfl, rfl⟩)
      · rename_i h1 h2; exact .inr (.inr ⟨fun h => h1 h.symm, fun h => h2 h.symm, hb⟩)
  have hcells : rL (upd ρ q (pl4 0 0 0 true)) C' = rL ρ C := by
    unfold rL
    rw [← hC']
    refine List.ext_getElem? fun i => ?_
    rw [List.getElem?_map, List.getElem?_map, List.getElem?_set]
    split
    · rename_i e1
      subst e1
      rw [hC, if_pos (List.getElem?_eq_some_iff.1 hC).1]
      show some (Value.slice (bif (upd ρ q (pl4 0 0 0 true) q).nil then (upd ρ q (pl4 0 0 0 true) q).alt else some (rA _ _)) 0 (upd ρ q (pl4 0 0 0 true) q).cap) = some (.slice none 0 0)
      rw [upd_same]; rfl
    · cases hi : C[i]? with
      | none => rfl
      | some v => show some _ = some _; rw [hb3 v (List.mem_of_getElem? hi) _ _ hag]
  refine ⟨upd ρ q (pl4 0 0 0 true), hs.df, hs.nt, hs.bl, hs.hB, fun n hn => ?_, fun n hn => List.mem_cons_of_mem _ (hs.al n hn), fun t' v hv => ?_, fun n b hb => ?_, fun n p b b' hn hm' hne hw hh => ?_⟩
  · rw [hag n (hs.al n hn)]; exact hs.fx n hn
  · obtain ⟨h1, h2⟩ := hs.tm t' v hv
    exact ⟨by rw [h2 _ _ hag]; exact h1, h2.mono fun n hn => List.mem_cons_of_mem _ hn⟩
  · rcases hrow n b hb with ⟨rfl, rfl⟩ | ⟨rfl, rfl⟩ | ⟨_, _, hb⟩
    · obtain ⟨r1, r2, r3, r4⟩ := hb1
      refine ⟨⟨?_, ?_, ?_, ?_⟩, List.mem_cons_of_mem _ hb2, fun v hv => ?_⟩
      · rw [hag n hb2]; exact r1
      · rw [hag n hb2]; exact r2
      · rw [hag n hb2]; exact r3
      · rw [hag n hb2, hcells]; exact r4
      · have hv : v ∈ C' := hv
        rw [← hC'] at hv
        rcases List.mem_or_eq_of_mem_set hv with h | h
        · exact (hb3 v h).mono fun n hn => List.mem_cons_of_mem _ hn
        · subst h; exact nbC_NBc (show memB q (q :: s.al) = true from memB_iff.2 List.mem_cons_self)
    · refine ⟨?_, List.mem_cons_self, fun v hv => nomatch hv⟩
      unfold BoxOK
      rw [upd_same]
      exact ⟨Nat.zero_le _, .inl ⟨rfl, ⟨rfl, rfl⟩, rfl⟩⟩
    · obtain ⟨h1, h2, h3⟩ := hs.bx n b hb
      exact ⟨h1.keep (hag n h2) (fun v hv => h3 v hv _ _ hag) (Nat.le_refl _) fun _ _ => rfl, List.mem_cons_of_mem _ h2, fun v hv => (h3 v hv).mono fun n hn => List.mem_cons_of_mem _ hn⟩
  · rcases hrow n b hn with ⟨rfl, rfl⟩ | ⟨rfl, rfl⟩ | ⟨_, _, hn2⟩
    · rcases hrow p b' hm' with ⟨rfl, rfl⟩ | ⟨rfl, rfl⟩ | ⟨_, _, hm2⟩
      · exact hne rfl
      · replace hh : (upd ρ p (pl4 0 0 0 true) p).nil = false ∧ _ := hh
        rw [upd_same] at hh; cases hh.1
      · rw [hag n hb2] at hh
        rw [hag p (hs.bx p b' hm2).2.1] at hh
        exact hs.ap n p _ b' hm hm2 hne trivial hh
    · replace hw : (upd ρ n (pl4 0 0 0 true) n).nil = false := hw
      rw [upd_same] at hw; cases hw
    · have hnl := (hs.bx n b hn2).2.1
      rw [hag n hnl] at hw hh
      rcases hrow p b' hm' with ⟨rfl, rfl⟩ | ⟨rfl, rfl⟩ | ⟨_, _, hm2⟩
      · rw [hag p hb2] at hh
        exact hs.ap n p b _ hn2 hm hne hw hh
      · replace hh : (upd ρ p (pl4 0 0 0 true) p).nil = false ∧ _ := hh
        rw [upd_same] at hh; cases hh.1
      · rw [hag p (hs.bx p b' hm2).2.1] at hh
        exact hs.ap n p b b' hn2 hm2 hne hw hh
end En
/-- the tick behind i items -/
def tk (L : List It) (i : Nat) : Int := if i = 0 then 0 else tAt L (i - 1)
theorem tAt_take (L : List It) {i j : Nat} (h : j < i) : tAt (L.take i) j = tAt L j := by
  unfold tAt; rw [List.getElem?_take_of_lt h]
theorem Its.pre {L : List It} {now : Int} (h : Its L now) (i : Nat) (hi : i ≤ L.length) : Its (L.take i) (tk L i) := by
  have hl : (L.take i).length = i := by rw [List.length_take]; omega
  refine ⟨by rw [hl]; have := h.len; omega, fun x hx => h.val x (List.mem_of_mem_take hx), fun x hx => ?_, fun a b hab hb => ?_⟩
  · obtain ⟨j, hj, e⟩ := List.mem_iff_getElem.1 hx
    rw [hl] at hj
    have hx0 := h.tick x (List.mem_of_mem_take hx)
    have e2 : tAt L j = x.t := by
      rw [← tAt_take L hj]; unfold tAt; rw [List.getElem?_eq_getElem (by omega), e]
    have := h.asc j (i - 1) (by omega) (by omega)
    unfold tk
    rw [if_neg (by omega)]
    omega
  · rw [hl] at hb
    rw [tAt_take L (by omega), tAt_take L hb]
    exact h.asc a b hab (by omega)
/-- the marks behind some items -/
def mrStep (w0 k : Int) (p : List Mk × Nat) (x : It) : List Mk × Nat :=
  let l' := advM x.t w0 p.1
  let l1 := l'.map (upM x.v) ++ [⟨((p.2 + 1 : Nat) : Int), x.t, 1, x.v, x.v * x.v, x.v, x.v⟩]
  (pickI l1 (pruneI (nearI k l1) (l'.length + 1) (l'.length + 1) 0), p.2 + 1)
def mrGo (w0 k : Int) (l : List It) : List Mk × Nat := l.foldl (mrStep w0 k) ([], 0)
theorem mrGo_take {w0 k : Int} {l : List It} {i : Nat} {x : It} (h : l[i]? = some x) : mrGo w0 k (l.take (i + 1)) = mrStep w0 k (mrGo w0 k (l.take i)) x := by
  rw [List.take_add_one, h]; unfold mrGo; rw [Option.toList_some, List.foldl_append]; rfl
structure MrS (L : List It) (w0 k : Int) (i : Nat) : Prop where
  ex : ∃ ss, (mrGo w0 k (L.take i)).1 = mks (L.take i) ss ∧ Sq (L.take i) (tk L i) w0 k ss
  n : (mrGo w0 k (L.take i)).2 = i
theorem Sq.step {L : List It} {w0 k : Int} {i : Nat} {x : It} {ss : List Nat} (hw : 1 ≤ w0) (hx : L[i]? = some x) (hI : Its (L.take i) (tk L i)) (hu : tk L i ≤ x.t) (h : Sq (L.take i) (tk L i) w0 k ss) :
    ∃ ss' ss2, advM x.t w0 (mks (L.take i) ss) = mks (L.take i) ss' ∧ Sq (L.take i) x.t w0 k ss' ∧ pickI (mks (L.take (i + 1)) (ss' ++ [i + 1])) (pruneI (nearI k (mks (L.take (i + 1)) (ss' ++ [i + 1]))) (ss'.length + 1) (ss'.length + 1) 0) = mks (L.take (i + 1)) ss2 ∧ Sq (L.take (i + 1)) x.t w0 k ss2 ∧ (mks (L.take i) ss').map (upM x.v) ++ [⟨((i + 1 : Nat) : Int), x.t, 1, x.v, x.v * x.v, x.v, x.v⟩] = mks (L.take (i + 1)) (ss' ++ [i + 1]) := by
  obtain ⟨ss', e1, h1⟩ := h.adv hI hu
  have hl : (L.take i).length = i := by rw [List.length_take]; have := (List.getElem?_eq_some_iff.1 hx).1; omega
  have eT : L.take (i + 1) = L.take i ++ [x] := by rw [List.take_add_one, hx]; rfl
  obtain ⟨ss2, e2, h2⟩ := h1.add x (hI.mono hu) hw (ss'.length + 1) rfl
  have e3 := mks_up (L.take i) x ss' h1.rng
  rw [hl] at e2 e3
  rw [eT]
  exact ⟨ss', ss2, e1, h1, e2, h2, e3⟩
theorem tk_succ {L : List It} {i : Nat} {x : It} (hx : L[i]? = some x) : tk L (i + 1) = x.t := by
  unfold tk tAt; rw [if_neg (by omega), Nat.add_sub_cancel, hx]
theorem tk_le {L : List It} {now : Int} (h : Its L now) {i : Nat} {x : It} (hx : L[i]? = some x) : tk L i ≤ x.t := by
  have hlt := (List.getElem?_eq_some_iff.1 hx).1
  unfold tk
  split
  · exact (h.tick x (List.mem_of_getElem? hx)).1
  · have := h.asc (i - 1) i (by omega) hlt
    have e : tAt L i = x.t := by unfold tAt; rw [hx]
    omega
theorem mr_spec {L : List It} {now w0 k : Int} (hI : Its L now) (hw : 1 ≤ w0) : ∀ i, i ≤ L.length → MrS L w0 k i
  | 0, _ => ⟨⟨[], rfl, Sq.start w0 k⟩, rfl⟩
  | i + 1, hi => by
    obtain ⟨⟨ss, e, h⟩, hn⟩ := mr_spec (k := k) hI hw i (by omega)
    obtain ⟨x, hx⟩ : ∃ x, L[i]? = some x := ⟨L[i]'(by omega), List.getElem?_eq_getElem (by omega)⟩
    obtain ⟨ss', ss2, h1, h2, h3, h4, h5⟩ := h.step hw hx (hI.pre i (by omega)) (tk_le hI hx)
    refine ⟨⟨ss2, ?_, ?_⟩, ?_⟩
    · rw [mrGo_take hx]
      unfold mrStep
      simp only [hn, e, h1, h5, mks_len]
      exact h3
    · rw [tk_succ hx]; exact h4
    · rw [mrGo_take hx]; show (mrGo w0 k (L.take i)).2 + 1 = _; rw [hn]
/-- ranges of the law -/
structure Rg (w0 k : Int) : Prop where
  w1 : 1 ≤ w0
  w2 : w0 ≤ 20
  k1 : 1 ≤ k
  k2 : k ≤ 4
theorem Sq.sp {L : List It} {now w0 k : Int} {ss : List Nat} (h : Sq L now w0 k ss) (hI : Its L now) (hr : Rg w0 k) (h0 : 0 ≤ now) (h1 : now ≤ 16777216) {l : List Mk} (hl : l = mks L ss) {i : Nat} (hi : L.length = i) : SP l ss.length w0 k 1000 now (i : Nat) := by
  subst hl hi
  obtain ⟨w1, w2, k1, k2⟩ := hr
  have hv := h.valid hI
  have hlen := hI.len
  have hss : ss.length ≤ 80 := by
    have key : ∀ (ss : List Nat) (a : Nat), ss.Pairwise (· < ·) → (∀ s ∈ ss, a < s ∧ s ≤ L.length) → ss.length + a ≤ L.length ∨ ss = [] := by
      intro ss
      induction ss with
      | nil => intro a _ _; exact .inr rfl
      | cons s ss ih =>
        intro a hp hm
        left
        obtain ⟨p1, p2⟩ := List.pairwise_cons.1 hp
        have hs := hm s List.mem_cons_self
        rcases ih s p2 (fun b hb => ⟨p1 b hb, (hm b (List.mem_cons_of_mem _ hb)).2⟩) with g | g
        · rw [List.length_cons]; omega
        · subst g; simp; omega
    rcases key ss 0 h.inc (fun s hs => by have := h.rng s hs; omega) with g | g
    · omega
    · subst g; simp
  exact ⟨mks_len L ss, by omega, w1, by omega, k1, by omega, by decide, by decide, h0, h1, hv, fun i a b ha hb => h.far' i a b ha hb⟩
theorem ent69 : Enters Tryz.prog 69 := enters Tryz.func69 (by kernel_rfl) (by kernel_rfl)
theorem ent13 : Enters Tryz.prog 13 := enters Tryz.func13 (by kernel_rfl) (by kernel_rfl)
theorem ent14 : Enters Tryz.prog 14 := enters Tryz.func14 (by kernel_rfl) (by kernel_rfl)
set_option maxRecDepth 100000 in
set_option maxHeartbeats 4000000 in
theorem nz_run (L : List It) (n : Nat) (now w0 k : Int) (hl : L.length = n) (hI : Its L now) (h1 : now ≤ 16777216) (hr : Rg w0 k) (lm : List Mk) (hlm : (mrGo w0 k L).1 = lm) (w : World) (A : Option Addr) (c : Nat) (h : SL w A n c 2 (itL L)) :
    Calls Tryz.prog 17 #[.agg #[.int .i64 5, .int .i64 0, .int .i64 w0, .int .i64 k, .int .i64 1000, .int .i64 0, .int .i64 0, .int .i64 0], .slice A n c] w (fun e w' => ∃ A' c' A2 c2, e = .returned (.tuple #[.agg (List.toArray (.int .i64 5 :: .int .i64 0 :: .int .i64 w0 :: .int .i64 k :: .int .i64 1000 :: .int .i64 0 :: .int .i64 0 :: .int .i64 0 :: .int .i64 0 :: .int .i64 0 :: .int .i64 0 :: .slice none 0 0 :: .int .i64 0 :: .int .i64 0 :: .int .i64 0 :: .int .i64 0 :: .slice none 0 0 :: .int .i64 0 :: .int .i64 0 :: .int .i64 0 :: .int .i64 0 :: .int .i64 0 :: .slice none 0 0 :: .int .i64 0 :: .int .i64 0 :: .int .i64 0 :: .int .i64 0 :: .int .i64 0 :: .int .i64 0 :: .slice none 0 0 :: .int .i64 w0 :: .int .i64 k :: .int .i64 1000 :: .int .i64 (tk L n) :: .int .i64 (n : Nat) :: .slice A' lm.length c' :: .int .i64 0 :: .int .i64 0 :: .int .i64 0 :: .slice none 0 0 :: .int .i64 0 :: .slice none 0 0 :: .bool false :: .int .i64 0 :: .int .i64 0 :: .int .i64 0 :: .slice none 0 0 :: .slice none 0 0 :: .int .i64 0 :: .int .i64 0 :: .int .i64 0 :: .slice none 0 0 :: .int .i64 0 :: .int .i64 0 :: .int .i64 0 :: .int .i64 0 :: .slice none 0 0 :: [])), .slice A2 n c2, .bool true]) ∧ OwnK w' w.heap.size 203 7 (.slice A' lm.length c') lm.length (mkL lm) ∧ Below w.heap.size w w') := by
  have hlen := hI.len
  have H := fun_slice tblOK mixedP Tryz.func17 rfl (fun s => [.agg #[.int .i64 5, .int .i64 0, .int .i64 w0, .int .i64 k, .int .i64 1000, .int .i64 0, .int .i64 0, .int .i64 0], s]) n 2 (itL L) h (by decide) (allFC_it L) [.agg #[.int .i64 5, .int .i64 0, .int .i64 w0, .int .i64 k, .int .i64 1000, .int .i64 0, .int .i64 0, .int .i64 0], .slice (some ⟨0, 0, none⟩) n 0] rfl (fun _ => rfl) 63 [(0, .agg #[.int .i64 5, .int .i64 0, .int .i64 w0, .int .i64 k, .int .i64 1000, .int .i64 0, .int .i64 0, .int .i64 0]), (1, .slice (some ⟨0, 0, none⟩) n 0)] rfl rfl (by kernel_rfl) rfl rfl (fun v st => ∃ q q2, v = .tuple #[.agg (List.toArray (.int .i64 5 :: .int .i64 0 :: .int .i64 w0 :: .int .i64 k :: .int .i64 1000 :: .int .i64 0 :: .int .i64 0 :: .int .i64 0 :: .int .i64 0 :: .int .i64 0 :: .int .i64 0 :: .slice none 0 0 :: .int .i64 0 :: .int .i64 0 :: .int .i64 0 :: .int .i64 0 :: .slice none 0 0 :: .int .i64 0 :: .int .i64 0 :: .int .i64 0 :: .int .i64 0 :: .int .i64 0 :: .slice none 0 0 :: .int .i64 0 :: .int .i64 0 :: .int .i64 0 :: .int .i64 0 :: .int .i64 0 :: .int .i64 0 :: .slice none 0 0 :: .int .i64 w0 :: .int .i64 k :: .int .i64 1000 :: .int .i64 (tk L n) :: .int .i64 (n : Nat) :: .slice (some ⟨q, 0, none⟩) lm.length 0 :: .int .i64 0 :: .int .i64 0 :: .int .i64 0 :: .slice none 0 0 :: .int .i64 0 :: .slice none 0 0 :: .bool false :: .int .i64 0 :: .int .i64 0 :: .int .i64 0 :: .slice none 0 0 :: .slice none 0 0 :: .int .i64 0 :: .int .i64 0 :: .int .i64 0 :: .slice none 0 0 :: .int .i64 0 :: .int .i64 0 :: .int .i64 0 :: .int .i64 0 :: .slice none 0 0 :: [])), .slice (some ⟨q2, 0, none⟩) n 0, .bool true] ∧ En.lk st.σ q = some (.vec 203 7 (mkL lm))) (by
    repeat' (first
      | refine AR.auto rfl ?_
      | refine AR.man (AOk.call (fun w => ny_new w0 k 1000 hr.k1 (by have := hr.k2; omega) (by decide) (by decide) hr.w1 (by have := hr.w2; omega) w) ent7 rfl rfl rfl rfl rfl) rfl rfl rfl ?_
      | refine AR.nil ?_
      | refine KF.mk ?_
      | refine KT.mk (by kernel_rfl) ?_
      | refine SQ.normal ?_
      | refine AC.seq ?_
      | refine AC.regF ?_
      | refine AC.regT ?_
      | refine AC.condT rfl ?_
      | refine AC.condF rfl ?_
      | refine AC.block ?_
      | refine BQ.normal ?_
      | refine BQ.ret ?_
      | refine BQ.here ?_
      | refine BQ.there rfl ?_
      | refine SQ.ret ?_
      | refine SQ.exit ?_
      | refine AC.ret ?_
      | refine AC.exit ?_
      | refine AC.skip ?_
      | (refine AR.split rfl (fun h => ?_) (fun h => ?_) <;> rw [h])
      | (refine AC.cond rfl (fun h => ?_) (fun h => ?_) <;> rw [h])
      | refine FQ.ret rfl rfl ?_
      | refine FQ.normal rfl rfl ?_)
    refine AC.loop (fun m st => ∃ (i : Nat) (l : List Mk), m = n - i ∧ i ≤ n ∧ l = (mrGo w0 k (L.take i)).1 ∧ st = ⟨[(21, .int .i64 (i : Nat)), (20, .int .i64 (n : Nat)), (19, .slice (some ⟨0, 0, none⟩) n 0), (9, .slice (some ⟨5, 0, none⟩) i 0), (8, .int .i64 0), (7, .pointer (some ⟨3, 0, none⟩)), (6, .bool false), (5, .slice none 0 0), (4, .pointer (some ⟨2, 0, none⟩))], [(3, .row 56 (.int .i64 5 :: .int .i64 0 :: .int .i64 w0 :: .int .i64 k :: .int .i64 1000 :: .int .i64 0 :: .int .i64 0 :: .int .i64 0 :: .int .i64 0 :: .int .i64 0 :: .int .i64 0 :: .slice none 0 0 :: .int .i64 0 :: .int .i64 0 :: .int .i64 0 :: .int .i64 0 :: .slice none 0 0 :: .int .i64 0 :: .int .i64 0 :: .int .i64 0 :: .int .i64 0 :: .int .i64 0 :: .slice none 0 0 :: .int .i64 0 :: .int .i64 0 :: .int .i64 0 :: .int .i64 0 :: .int .i64 0 :: .int .i64 0 :: .slice none 0 0 :: .int .i64 w0 :: .int .i64 k :: .int .i64 1000 :: .int .i64 (tk L i) :: .int .i64 (i : Nat) :: .slice (some ⟨4, 0, none⟩) l.length 0 :: .int .i64 0 :: .int .i64 0 :: .int .i64 0 :: .slice none 0 0 :: .int .i64 0 :: .slice none 0 0 :: .bool false :: .int .i64 0 :: .int .i64 0 :: .int .i64 0 :: .slice none 0 0 :: .slice none 0 0 :: .int .i64 0 :: .int .i64 0 :: .int .i64 0 :: .slice none 0 0 :: .int .i64 0 :: .int .i64 0 :: .int .i64 0 :: .int .i64 0 :: .slice none 0 0 :: [])), (4, .vec 203 7 (mkL l)), (5, .vec 88 2 (itL (L.take i))), (2, .row 56 (.int .i64 0 :: .int .i64 0 :: .int .i64 0 :: .int .i64 0 :: .int .i64 0 :: .int .i64 0 :: .int .i64 0 :: .int .i64 0 :: .int .i64 0 :: .int .i64 0 :: .int .i64 0 :: .slice none 0 0 :: .int .i64 0 :: .int .i64 0 :: .int .i64 0 :: .int .i64 0 :: .slice none 0 0 :: .int .i64 0 :: .int .i64 0 :: .int .i64 0 :: .int .i64 0 :: .int .i64 0 :: .slice none 0 0 :: .int .i64 0 :: .int .i64 0 :: .int .i64 0 :: .int .i64 0 :: .int .i64 0 :: .int .i64 0 :: .slice none 0 0 :: .int .i64 0 :: .int .i64 0 :: .int .i64 0 :: .int .i64 0 :: .int .i64 0 :: .slice none 0 0 :: .int .i64 0 :: .int .i64 0 :: .int .i64 0 :: .slice none 0 0 :: .int .i64 0 :: .slice none 0 0 :: .bool false :: .int .i64 0 :: .int .i64 0 :: .int .i64 0 :: .slice none 0 0 :: .slice none 0 0 :: .int .i64 0 :: .int .i64 0 :: .int .i64 0 :: .slice none 0 0 :: .int .i64 0 :: .int .i64 0 :: .int .i64 0 :: .int .i64 0 :: .slice none 0 0 :: [])), (0, .view 2 (itL L))], [5, 4, 3, 2, 1, 0], 63⟩) n _ ?_ ⟨0, [], rfl, Nat.zero_le _, rfl, rfl⟩ ?_
    · refine Ren.trans (Ren.vnil 9 88 2 5 rfl rfl) ?_
      refine Ren.trans (Ren.rnil 3 56 (.int .i64 5 :: .int .i64 0 :: .int .i64 w0 :: .int .i64 k :: .int .i64 1000 :: .int .i64 0 :: .int .i64 0 :: .int .i64 0 :: .int .i64 0 :: .int .i64 0 :: .int .i64 0 :: .slice none 0 0 :: .int .i64 0 :: .int .i64 0 :: .int .i64 0 :: .int .i64 0 :: .slice none 0 0 :: .int .i64 0 :: .int .i64 0 :: .int .i64 0 :: .int .i64 0 :: .int .i64 0 :: .slice none 0 0 :: .int .i64 0 :: .int .i64 0 :: .int .i64 0 :: .int .i64 0 :: .int .i64 0 :: .int .i64 0 :: .slice none 0 0 :: .int .i64 w0 :: .int .i64 k :: .int .i64 1000 :: .int .i64 0 :: .int .i64 0 :: .slice none 0 0 :: .int .i64 0 :: .int .i64 0 :: .int .i64 0 :: .slice none 0 0 :: .int .i64 0 :: .slice none 0 0 :: .bool false :: .int .i64 0 :: .int .i64 0 :: .int .i64 0 :: .slice none 0 0 :: .slice none 0 0 :: .int .i64 0 :: .int .i64 0 :: .int .i64 0 :: .slice none 0 0 :: .int .i64 0 :: .int .i64 0 :: .int .i64 0 :: .int .i64 0 :: .slice none 0 0 :: []) (.int .i64 5 :: .int .i64 0 :: .int .i64 w0 :: .int .i64 k :: .int .i64 1000 :: .int .i64 0 :: .int .i64 0 :: .int .i64 0 :: .int .i64 0 :: .int .i64 0 :: .int .i64 0 :: .slice none 0 0 :: .int .i64 0 :: .int .i64 0 :: .int .i64 0 :: .int .i64 0 :: .slice none 0 0 :: .int .i64 0 :: .int .i64 0 :: .int .i64 0 :: .int .i64 0 :: .int .i64 0 :: .slice none 0 0 :: .int .i64 0 :: .int .i64 0 :: .int .i64 0 :: .int .i64 0 :: .int .i64 0 :: .int .i64 0 :: .slice none 0 0 :: .int .i64 w0 :: .int .i64 k :: .int .i64 1000 :: .int .i64 0 :: .int .i64 0 :: .slice (some ⟨4, 0, none⟩) 0 0 :: .int .i64 0 :: .int .i64 0 :: .int .i64 0 :: .slice none 0 0 :: .int .i64 0 :: .slice none 0 0 :: .bool false :: .int .i64 0 :: .int .i64 0 :: .int .i64 0 :: .slice none 0 0 :: .slice none 0 0 :: .int .i64 0 :: .int .i64 0 :: .int .i64 0 :: .slice none 0 0 :: .int .i64 0 :: .int .i64 0 :: .int .i64 0 :: .int .i64 0 :: .slice none 0 0 :: []) 203 7 4 35 rfl rfl rfl rfl) ?_
      exact Ren.mv (tabF []) rfl (fun k hk => by match k, hk with | 0, _ => exact ⟨rfl, rfl⟩) ⟨⟨rfl, rfl⟩, ⟨rfl, rfl⟩, ⟨rfl, rfl⟩, ⟨rfl, rfl⟩, ⟨rfl, rfl⟩, ⟨rfl, rfl⟩, ⟨rfl, rfl⟩, ⟨rfl, rfl⟩, ⟨rfl, rfl⟩, trivial⟩ ⟨⟨rfl, rfl, rfl⟩, ⟨by rw [mv_mkr]; rfl, rfl, allNC_mk _ _⟩, ⟨by rw [mv_itr]; rfl, rfl, allNC_it _ _⟩, ⟨rfl, rfl, rfl⟩, ⟨by rw [mv_itv]; rfl, rfl, allNC_it _ _⟩, trivial⟩ rfl
    intro m st hi
    obtain ⟨i, l, rfl, hin, hl0, rfl⟩ := hi
    by_cases hlt : i < n
    · have hd : decide ((i : Int) < (n : Int)) = true := by simp only [decide_eq_true_eq]; omega
      obtain ⟨x, hx⟩ : ∃ x, L[i]? = some x := ⟨L[i]'(by omega), List.getElem?_eq_getElem (by omega)⟩
      have hxv := hI.val x (List.mem_of_getElem? hx)
      have hxt := hI.tick x (List.mem_of_getElem? hx)
      have hu := tk_le hI hx
      have hu2 : x.t ≤ 16777216 := by omega
      have w4 : IntKind.i64.wrap ((i : Int) + 1) = ((i + 1 : Nat) : Int) := by rw [IntWalk.i64_in _ (by omega)]; rfl
      have hLi : (L.take i).length = i := by rw [List.length_take]; omega
      have hLi1 : (L.take (i + 1)).length = i + 1 := by rw [List.length_take]; omega
      have eT : L.take (i + 1) = L.take i ++ [x] := by rw [List.take_add_one, hx]; rfl
      have hIi := hI.pre i (by omega)
      have hIi1 := hI.pre (i + 1) (by omega)
      rw [tk_succ hx] at hIi1
      have h00 : 0 ≤ tk L i := by unfold tk; split; exact Int.le_refl _; exact (hI.tat (i := i - 1) (by omega)).1
      obtain ⟨⟨ss, e0, hS⟩, hn0⟩ := mr_spec (k := k) hI hr.w1 i (by omega)
      obtain ⟨ss', ss2, s1, s2, s3, s4, s5⟩ := hS.step hr.w1 hx hIi hu
      have eG := mrGo_take (w0 := w0) (k := k) hx
      unfold mrStep at eG
      simp only [hn0, e0, s1, s5, mks_len] at eG
      rw [e0] at hl0
      have hSP := hS.sp hIi hr h00 (by omega) hl0 hLi
      rw [show ss.length = l.length from by rw [hl0, mks_len]] at hSP
      obtain ⟨l2, hl2'⟩ : ∃ l2, mks (L.take i) ss' = l2 := ⟨_, rfl⟩
      have hl2 : advM x.t w0 l = l2 := by rw [hl0, s1, hl2']
      have hSP2 := s2.sp (hIi.mono hu) hr hxt.1 hu2 hl2'.symm hLi
      have hl2n : ss'.length = l2.length := by rw [← hl2', mks_len]
      rw [hl2n] at hSP2
      obtain ⟨l1, hl1'⟩ : ∃ l1, mks (L.take (i + 1)) (ss' ++ [i + 1]) = l1 := ⟨_, rfl⟩
      obtain ⟨l3, hl3'⟩ : ∃ l3, mks (L.take (i + 1)) ss2 = l3 := ⟨_, rfl⟩
      have hl1 : l2.map (upM x.v) ++ [⟨((i : Nat) : Int) + 1, x.t, 1, x.v, x.v * x.v, x.v, x.v⟩] = l1 := by rw [← hl2', ← hl1', ← s5]; rfl
      have hl3 : l3 = pickI l1 (pruneI (nearI k l1) (l2.length + 1) (l2.length + 1) 0) := by rw [← hl3', ← hl1', ← hl2n, s3]
      have hok1 : ∀ m ∈ l1, MkOK m := fun m hm => by
        rw [← hl1'] at hm
        obtain ⟨s, hs, rfl⟩ := List.mem_map.1 hm
        have hs2 : 1 ≤ s ∧ s ≤ (L.take (i + 1)).length := by
          rcases List.mem_append.1 hs with g | g
          · have := s2.rng s g; rw [hLi] at this; rw [hLi1]; omega
          · simp at g; subst g; rw [hLi1]; omega
        exact (mkOf_ok hIi1 hs2.1 hs2.2).1
      have hfull : ∀ m, l2[0]? = some m → m.n ≠ 1000 := fun m hm => by
        have g := hSP2.hv.one 0 m hm
        have g1 := g.a1
        have g3 := g.a3
        omega
      have e3 : (mrGo w0 k (L.take (i + 1))).1 = l3 := by rw [eG, ← hl3', ← s3]
      have wq : ((i : Nat) : Int) + 1 = ((i + 1 : Nat) : Int) := rfl
      repeat' (first
        | rw [hd]
        | rw [w4]
        | refine AR.auto rfl ?_
        | refine AR.man (oki_idx (A0 := 0) (i := i) rfl rfl rfl rfl (nonE_itv 2 (by omega)) (by omega)) rfl rfl rfl ?_
        | refine AR.man (oki_ld (m := x) rfl rfl rfl (fun jj u hu => by rw [show 0 + i * 2 + jj = i * 2 + jj from (by omega), show (Box.view 2 (itL L)).cells = itL L from rfl, itL_at L i jj x hx (by have := (List.getElem?_eq_some_iff.1 hu).1; simpa [itC] using this)]; exact hu)) rfl rfl rfl ?_
        | refine AR.man (AOk.callOS (fun s => [.agg (List.toArray (.int .i64 5 :: .int .i64 0 :: .int .i64 w0 :: .int .i64 k :: .int .i64 1000 :: .int .i64 0 :: .int .i64 0 :: .int .i64 0 :: .int .i64 0 :: .int .i64 0 :: .int .i64 0 :: .slice none 0 0 :: .int .i64 0 :: .int .i64 0 :: .int .i64 0 :: .int .i64 0 :: .slice none 0 0 :: .int .i64 0 :: .int .i64 0 :: .int .i64 0 :: .int .i64 0 :: .int .i64 0 :: .slice none 0 0 :: .int .i64 0 :: .int .i64 0 :: .int .i64 0 :: .int .i64 0 :: .int .i64 0 :: .int .i64 0 :: .slice none 0 0 :: .int .i64 w0 :: .int .i64 k :: .int .i64 1000 :: .int .i64 (tk L i) :: .int .i64 (i : Nat) :: s :: .int .i64 0 :: .int .i64 0 :: .int .i64 0 :: .slice none 0 0 :: .int .i64 0 :: .slice none 0 0 :: .bool false :: .int .i64 0 :: .int .i64 0 :: .int .i64 0 :: .slice none 0 0 :: .slice none 0 0 :: .int .i64 0 :: .int .i64 0 :: .int .i64 0 :: .slice none 0 0 :: .int .i64 0 :: .int .i64 0 :: .int .i64 0 :: .int .i64 0 :: .slice none 0 0 :: [])), .int .i64 x.t]) 4 l.length 7 (mkL l) (fun s => .tuple #[.agg (List.toArray (.int .i64 5 :: .int .i64 0 :: .int .i64 w0 :: .int .i64 k :: .int .i64 1000 :: .int .i64 0 :: .int .i64 0 :: .int .i64 0 :: .int .i64 0 :: .int .i64 0 :: .int .i64 0 :: .slice none 0 0 :: .int .i64 0 :: .int .i64 0 :: .int .i64 0 :: .int .i64 0 :: .slice none 0 0 :: .int .i64 0 :: .int .i64 0 :: .int .i64 0 :: .int .i64 0 :: .int .i64 0 :: .slice none 0 0 :: .int .i64 0 :: .int .i64 0 :: .int .i64 0 :: .int .i64 0 :: .int .i64 0 :: .int .i64 0 :: .slice none 0 0 :: .int .i64 w0 :: .int .i64 k :: .int .i64 1000 :: .int .i64 x.t :: .int .i64 (i : Nat) :: s :: .int .i64 0 :: .int .i64 0 :: .int .i64 0 :: .slice none 0 0 :: .int .i64 0 :: .slice none 0 0 :: .bool false :: .int .i64 0 :: .int .i64 0 :: .int .i64 0 :: .slice none 0 0 :: .slice none 0 0 :: .int .i64 0 :: .int .i64 0 :: .int .i64 0 :: .slice none 0 0 :: .int .i64 0 :: .int .i64 0 :: .int .i64 0 :: .int .i64 0 :: .slice none 0 0 :: [])), .int .i64 0]) 90 l2.length 7 203 (mkL l2) (fun w A c h => hl2 ▸ ny_adv l l.length w0 k 1000 (tk L i) (i : Nat) x.t hSP hu hu2 w A c h) ent69 rfl rfl rfl (fun _ => rfl) rfl (fun _ _ h => h) (by decide) (mkL_len l) (allFC_mk l) rfl rfl (fun _ => rfl) rfl (allFC_mk _)) rfl rfl rfl ?_
        | refine AR.man (AOk.callOS (fun s => [.agg (List.toArray (.int .i64 5 :: .int .i64 0 :: .int .i64 w0 :: .int .i64 k :: .int .i64 1000 :: .int .i64 0 :: .int .i64 0 :: .int .i64 0 :: .int .i64 0 :: .int .i64 0 :: .int .i64 0 :: .slice none 0 0 :: .int .i64 0 :: .int .i64 0 :: .int .i64 0 :: .int .i64 0 :: .slice none 0 0 :: .int .i64 0 :: .int .i64 0 :: .int .i64 0 :: .int .i64 0 :: .int .i64 0 :: .slice none 0 0 :: .int .i64 0 :: .int .i64 0 :: .int .i64 0 :: .int .i64 0 :: .int .i64 0 :: .int .i64 0 :: .slice none 0 0 :: .int .i64 w0 :: .int .i64 k :: .int .i64 1000 :: .int .i64 x.t :: .int .i64 (i : Nat) :: s :: .int .i64 0 :: .int .i64 0 :: .int .i64 0 :: .slice none 0 0 :: .int .i64 0 :: .slice none 0 0 :: .bool false :: .int .i64 0 :: .int .i64 0 :: .int .i64 0 :: .slice none 0 0 :: .slice none 0 0 :: .int .i64 0 :: .int .i64 0 :: .int .i64 0 :: .slice none 0 0 :: .int .i64 0 :: .int .i64 0 :: .int .i64 0 :: .int .i64 0 :: .slice none 0 0 :: [])), .int .i64 x.v, .slice none 0 0]) 90 l2.length 7 (mkL l2) (fun s => .tuple #[.agg (List.toArray (.int .i64 5 :: .int .i64 0 :: .int .i64 w0 :: .int .i64 k :: .int .i64 1000 :: .int .i64 0 :: .int .i64 0 :: .int .i64 0 :: .int .i64 0 :: .int .i64 0 :: .int .i64 0 :: .slice none 0 0 :: .int .i64 0 :: .int .i64 0 :: .int .i64 0 :: .int .i64 0 :: .slice none 0 0 :: .int .i64 0 :: .int .i64 0 :: .int .i64 0 :: .int .i64 0 :: .int .i64 0 :: .slice none 0 0 :: .int .i64 0 :: .int .i64 0 :: .int .i64 0 :: .int .i64 0 :: .int .i64 0 :: .int .i64 0 :: .slice none 0 0 :: .int .i64 w0 :: .int .i64 k :: .int .i64 1000 :: .int .i64 x.t :: .int .i64 ((i : Nat) + 1) :: s :: .int .i64 0 :: .int .i64 0 :: .int .i64 0 :: .slice none 0 0 :: .int .i64 0 :: .slice none 0 0 :: .bool false :: .int .i64 0 :: .int .i64 0 :: .int .i64 0 :: .slice none 0 0 :: .slice none 0 0 :: .int .i64 0 :: .int .i64 0 :: .int .i64 0 :: .slice none 0 0 :: .int .i64 0 :: .int .i64 0 :: .int .i64 0 :: .int .i64 0 :: .slice none 0 0 :: [])), .int .i64 0]) 91 l3.length 7 203 (mkL l3) (fun w A c h => ny_add l2 l2.length w0 k 1000 x.t (i : Nat) x.v l1 l3 hSP2 hxv.1 hxv.2 hfull (by omega) hl1 hok1 hl3 w A c h) ent13 rfl rfl rfl (fun _ => rfl) rfl (fun _ _ h => h) (by decide) (mkL_len l2) (allFC_mk l2) rfl rfl (fun _ => rfl) rfl (allFC_mk _)) rfl rfl rfl ?_
        | refine AR.man (oki_app 92 (l := L.take i) (m := x) hLi (by omega) rfl rfl rfl rfl rfl rfl rfl rfl rfl) rfl rfl rfl ?_
        | refine AR.nil ?_
        | refine KF.mk ?_
        | refine KT.mk (by kernel_rfl) ?_
        | refine SQ.normal ?_
        | refine AC.seq ?_
        | refine AC.regF ?_
        | refine AC.regT ?_
        | refine AC.condT rfl ?_
        | refine AC.condF rfl ?_
        | refine AC.block ?_
        | refine BQ.normal ?_
        | refine BQ.ret ?_
        | refine BQ.here ?_
        | refine BQ.there rfl ?_
        | refine SQ.ret ?_
        | refine SQ.exit ?_
        | refine AC.ret ?_
        | refine AC.exit ?_
        | refine AC.skip ?_
        | (refine AR.split rfl (fun h => ?_) (fun h => ?_) <;> rw [h])
        | (refine AC.cond rfl (fun h => ?_) (fun h => ?_) <;> rw [h])
        | refine FQ.ret rfl rfl ?_
        | refine FQ.normal rfl rfl ?_)
      refine ⟨n - (i + 1), _, by omega, ?_, i + 1, l3, rfl, by omega, e3.symm, rfl⟩
      rw [tk_succ hx, eT]
      exact Ren.mv (tabF [(4, 91), (5, 92)]) rfl (fun k hk => by match k, hk with | 0, _ => exact ⟨rfl, rfl⟩) ⟨⟨rfl, rfl⟩, ⟨rfl, rfl⟩, ⟨rfl, rfl⟩, ⟨rfl, rfl⟩, ⟨rfl, rfl⟩, ⟨rfl, rfl⟩, ⟨rfl, rfl⟩, ⟨rfl, rfl⟩, ⟨rfl, rfl⟩, trivial⟩ ⟨⟨rfl, rfl, rfl⟩, ⟨by rw [mv_mkr]; rfl, rfl, allNC_mk _ _⟩, ⟨by rw [mv_itr]; rfl, rfl, allNC_it _ _⟩, ⟨rfl, rfl, rfl⟩, ⟨by rw [mv_itv]; rfl, rfl, allNC_it _ _⟩, trivial⟩ rfl
    · obtain rfl : n = i := by omega
      have hd : decide ((n : Int) < (n : Int)) = false := by simp
      rw [List.take_of_length_le (by omega), hlm] at hl0
      subst hl0
      repeat' (first
        | rw [hd]
        | refine AR.auto rfl ?_
        | refine AR.nil ?_
        | refine KF.mk ?_
        | refine KT.mk (by kernel_rfl) ?_
        | refine SQ.normal ?_
        | refine AC.seq ?_
        | refine AC.regF ?_
        | refine AC.regT ?_
        | refine AC.condT rfl ?_
        | refine AC.condF rfl ?_
        | refine AC.block ?_
        | refine BQ.normal ?_
        | refine BQ.ret ?_
        | refine BQ.here ?_
        | refine BQ.there rfl ?_
        | refine SQ.ret ?_
        | refine SQ.exit ?_
        | refine AC.ret ?_
        | refine AC.exit ?_
        | refine AC.skip ?_
        | (refine AR.split rfl (fun h => ?_) (fun h => ?_) <;> rw [h])
        | (refine AC.cond rfl (fun h => ?_) (fun h => ?_) <;> rw [h])
        | refine FQ.ret rfl rfl ?_
        | refine FQ.normal rfl rfl ?_)
      all_goals exact ⟨4, 5, rfl, rfl⟩)
  refine H.mono fun e w' he => ?_
  obtain ⟨v, st, ρ, a, ⟨q, q2, rfl, hq⟩, rfl, hs⟩ := he
  obtain ⟨A', c', h10, h11⟩ := vec_own (n := lm.length) (hs.bx _ _ hq).1 (mkL_len _) (by decide) (allFC_mk _)
  obtain ⟨A2, c2, h12⟩ : ∃ A2 c2, rC ρ (.slice (some ⟨q2, 0, none⟩) n 0) = .slice A2 n c2 := ⟨_, _, rfl⟩
  have e9 : rV ρ (.tuple #[.agg (List.toArray (.int .i64 5 :: .int .i64 0 :: .int .i64 w0 :: .int .i64 k :: .int .i64 1000 :: .int .i64 0 :: .int .i64 0 :: .int .i64 0 :: .int .i64 0 :: .int .i64 0 :: .int .i64 0 :: .slice none 0 0 :: .int .i64 0 :: .int .i64 0 :: .int .i64 0 :: .int .i64 0 :: .slice none 0 0 :: .int .i64 0 :: .int .i64 0 :: .int .i64 0 :: .int .i64 0 :: .int .i64 0 :: .slice none 0 0 :: .int .i64 0 :: .int .i64 0 :: .int .i64 0 :: .int .i64 0 :: .int .i64 0 :: .int .i64 0 :: .slice none 0 0 :: .int .i64 w0 :: .int .i64 k :: .int .i64 1000 :: .int .i64 (tk L n) :: .int .i64 (n : Nat) :: .slice (some ⟨q, 0, none⟩) lm.length 0 :: .int .i64 0 :: .int .i64 0 :: .int .i64 0 :: .slice none 0 0 :: .int .i64 0 :: .slice none 0 0 :: .bool false :: .int .i64 0 :: .int .i64 0 :: .int .i64 0 :: .slice none 0 0 :: .slice none 0 0 :: .int .i64 0 :: .int .i64 0 :: .int .i64 0 :: .slice none 0 0 :: .int .i64 0 :: .int .i64 0 :: .int .i64 0 :: .int .i64 0 :: .slice none 0 0 :: [])), .slice (some ⟨q2, 0, none⟩) n 0, .bool true]) = .tuple #[.agg (List.toArray (.int .i64 5 :: .int .i64 0 :: .int .i64 w0 :: .int .i64 k :: .int .i64 1000 :: .int .i64 0 :: .int .i64 0 :: .int .i64 0 :: .int .i64 0 :: .int .i64 0 :: .int .i64 0 :: .slice none 0 0 :: .int .i64 0 :: .int .i64 0 :: .int .i64 0 :: .int .i64 0 :: .slice none 0 0 :: .int .i64 0 :: .int .i64 0 :: .int .i64 0 :: .int .i64 0 :: .int .i64 0 :: .slice none 0 0 :: .int .i64 0 :: .int .i64 0 :: .int .i64 0 :: .int .i64 0 :: .int .i64 0 :: .int .i64 0 :: .slice none 0 0 :: .int .i64 w0 :: .int .i64 k :: .int .i64 1000 :: .int .i64 (tk L n) :: .int .i64 (n : Nat) :: (rC ρ (.slice (some ⟨q, 0, none⟩) lm.length 0)) :: .int .i64 0 :: .int .i64 0 :: .int .i64 0 :: .slice none 0 0 :: .int .i64 0 :: .slice none 0 0 :: .bool false :: .int .i64 0 :: .int .i64 0 :: .int .i64 0 :: .slice none 0 0 :: .slice none 0 0 :: .int .i64 0 :: .int .i64 0 :: .int .i64 0 :: .slice none 0 0 :: .int .i64 0 :: .int .i64 0 :: .int .i64 0 :: .int .i64 0 :: .slice none 0 0 :: [])), (rC ρ (.slice (some ⟨q2, 0, none⟩) n 0)), .bool true] := rfl
  exact ⟨A', c', A2, c2, by rw [e9, h10, h12], h11, hs.bl⟩
end Go.Proofs.YtbageimconenlaaGreat
