/- Blocks of a window: what comes of an item more and of the clock; what is sure; the laws of ranks and quantiles (plain). No program in sight. -/
import Derived.Test.YtbageimconenlaaGreatQO
import Derived.Test.YtbageimconenlaaGreatTI
import Derived.Test.YtbageimconenlaaGreatQH
namespace Go.Proofs.YtbageimconenlaaGreat
set_option linter.unusedVariables false
def Grp (e : Eb) (g : List It) : Prop := e.vs.Perm (g.map It.v) ∧ ∃ g', g = g' ++ [⟨e.t, e.last⟩]
def Rep : List Eb → List It → Prop
  | [], its => its = []
  | e :: es, its => ∃ g r, its = g ++ r ∧ Grp e g ∧ Rep es r
theorem Rep.app : ∀ {a b : List Eb} {its : List It}, Rep (a ++ b) its ↔ ∃ i j, its = i ++ j ∧ Rep a i ∧ Rep b j
  | [], b, its => ⟨fun h => ⟨[], its, rfl, rfl, h⟩, fun ⟨i, j, h1, h2, h3⟩ => by
      have h2 : i = [] := h2
      subst h2; rw [h1]; exact h3⟩
  | e :: a, b, its => by
    constructor
    · rintro ⟨g, r, rfl, hg, hr⟩
      obtain ⟨i, j, rfl, hi, hj⟩ := Rep.app.1 hr
      exact ⟨g ++ i, j, by rw [List.append_assoc], ⟨g, i, rfl, hg, hi⟩, hj⟩
    · rintro ⟨i, j, rfl, ⟨g, r, rfl, hg, hr⟩, hj⟩
      exact ⟨g, r ++ j, by rw [List.append_assoc], hg, Rep.app.2 ⟨r, j, rfl, hr, hj⟩⟩
theorem Grp.mrg {L : Nat} {x y : Eb} {g h : List It} (hx : Grp x g) (hy : Grp y h) : Grp (mgB L x y) (g ++ h) := by
  obtain ⟨x1, g', rfl⟩ := hx
  obtain ⟨y1, h', rfl⟩ := hy
  refine ⟨?_, g' ++ [⟨x.t, x.last⟩] ++ h', by rw [List.append_assoc, List.append_assoc, List.append_assoc]; rfl⟩
  show (mg x.vs y.vs).Perm _
  rw [List.map_append]
  exact (mg_perm _ x.vs y.vs (Nat.le_refl _)).trans (x1.append y1)
theorem Rep.mid {L : Nat} {a c : List Eb} {x y : Eb} {its : List It} (h : Rep (a ++ x :: y :: c) its) : Rep (a ++ mgB L x y :: c) its := by
  obtain ⟨i, j, rfl, hi, g, r, rfl, hg, g2, r2, rfl, hg2, hr⟩ := Rep.app.1 h
  exact Rep.app.2 ⟨i, g ++ (g2 ++ r2), rfl, hi, g ++ g2, r2, by rw [List.append_assoc], hg.mrg hg2, hr⟩
theorem Rep.snoc {es : List Eb} {its : List It} {t v : Int} (h : Rep es its) : Rep (es ++ [⟨t, v, 0, [v]⟩]) (its ++ [⟨t, v⟩]) :=
  Rep.app.2 ⟨its, [⟨t, v⟩], rfl, h, [⟨t, v⟩], [], rfl, ⟨.refl _, [], rfl⟩, rfl⟩
theorem cnt_app (l : Nat) (a b : List Eb) : cnt l (a ++ b) = cnt l a + cnt l b := List.countP_append
theorem cnt_zero {l : Nat} {es : List Eb} (h : ∀ e ∈ es, e.lv ≠ l) : cnt l es = 0 := by
  refine List.countP_eq_zero.2 fun e he hb => h e he (Nat.eq_of_beq_eq_true hb)
theorem cnt_all {l : Nat} {es : List Eb} (h : ∀ e ∈ es, e.lv = l) : cnt l es = es.length := by
  refine List.countP_eq_length.2 fun e he => by rw [h e he]; exact Nat.beq_refl l
theorem cnt_one {l : Nat} {es : List Eb} {e : Eb} (h : e ∈ es) (hl : e.lv = l) : 1 ≤ cnt l es :=
  List.countP_pos_iff.2 ⟨e, h, by rw [hl]; exact Nat.beq_refl l⟩
def tl (L : Nat) (es : List Eb) : Nat := totE (es.filter fun e => decide (e.lv < L))
theorem tl_le (L : Nat) : ∀ es : List Eb, tl L es ≤ totE es
  | [] => Nat.le_refl _
  | e :: es => by
    have := tl_le L es
    unfold tl at this ⊢
    rw [List.filter_cons]
    split
    · simp only [totE]; omega
    · simp only [totE]; exact Nat.le_trans this (Nat.le_add_left _ _)
theorem tl_succ (L : Nat) : ∀ es : List Eb, tl (L + 1) es = tl L es + cnt L es * 2 ^ L
  | [] => by simp [tl, cnt, totE]
  | e :: es => by
    have ih := tl_succ L es
    unfold tl at ih ⊢
    have hc : cnt L (e :: es) = cnt L es + if e.lv = L then 1 else 0 := by
      have : cnt L ([e] ++ es) = cnt L [e] + cnt L es := cnt_app L [e] es
      have h1 : cnt L [e] = if e.lv = L then 1 else 0 := by
        by_cases h : e.lv = L
        · rw [if_pos h, cnt_all (by simpa using h)]; rfl
        · rw [if_neg h, cnt_zero (by simpa using h)]
      rw [h1] at this
      rw [show e :: es = [e] ++ es from rfl, this]; omega
    rw [hc, List.filter_cons, List.filter_cons]
    rcases Nat.lt_trichotomy e.lv L with h | h | h
    · rw [if_pos (by simp; omega), if_pos (by simpa using h), if_neg (by omega)]
      simp only [totE, Nat.add_zero]; omega
    · rw [if_pos (by simp; omega), if_neg (by simp; omega), if_pos h]
      simp only [totE, Nat.add_mul, Nat.one_mul, h]; omega
    · rw [if_neg (by simp; omega), if_neg (by simp; omega), if_neg (by omega)]
      simp only [Nat.add_zero]; exact ih
theorem tl_low {k : Nat} {es : List Eb} : ∀ {L : Nat}, (∀ l, l < L → k ≤ cnt l es) → k * 2 ^ L ≤ tl L es + k
  | 0, _ => by simp
  | L + 1, h => by
    have ih := tl_low (k := k) (es := es) (L := L) fun l hl => h l (by omega)
    have h2 : k * 2 ^ L ≤ cnt L es * 2 ^ L := Nat.mul_le_mul_right _ (h L (Nat.lt_succ_self _))
    have h3 := tl_succ L es
    rw [Nat.pow_succ]
    have : k * (2 ^ L * 2) = k * 2 ^ L + k * 2 ^ L := by rw [← Nat.mul_assoc]; omega
    omega
theorem totlow {k L : Nat} {es : List Eb} (h : ∀ l, l < L → k ≤ cnt l es) : cnt L es * 2 ^ L + k * 2 ^ L ≤ totE es + k := by
  have h1 := tl_low h
  have h2 := tl_succ L es
  have h3 := tl_le (L + 1) es
  omega
theorem fst_stop (L : Nat) (p : List Eb) : ∀ i, i ≤ p.length → fst L p i = 0 ∨ ∃ e, p[fst L p i - 1]? = some e ∧ e.lv ≠ L
  | 0, _ => .inl rfl
  | i + 1, h => by
    have he : p[i]? = some p[i] := List.getElem?_eq_getElem (by omega)
    unfold fst
    rw [he]
    simp only []
    by_cases hl : (p[i]).lv = L
    · rw [if_pos hl]; exact fst_stop L p i (by omega)
    · rw [if_neg hl]; exact .inr ⟨p[i], by rw [Nat.add_sub_cancel]; exact he, hl⟩
def Ord (a b : Eb) : Prop := a.t ≤ b.t ∧ b.lv ≤ a.lv
structure PV (k L T : Nat) (p lo : List Eb) : Prop where
  srt : (p ++ lo).Pairwise Ord
  hi : ∀ e ∈ p, L ≤ e.lv
  low : ∀ e ∈ lo, e.lv < L
  cl : ∀ l, l < L → cnt l lo = k
  cL : cnt L p ≤ k + 2
  ch : ∀ l, L < l → cnt l p ≤ k + 1
  cm : ∀ l, L ≤ l → ∀ e ∈ p, l < e.lv → k ≤ cnt l p
  rng : ∀ e ∈ p ++ lo, 0 ≤ e.t ∧ e.t ≤ 16777216
  ok : ∀ e ∈ p ++ lo, EbOK e
  tot : totE (p ++ lo) = T
  ne : p ≠ []
structure PR (k T : Nat) (b : Int) (old R : List Eb) : Prop where
  db : DB R k b
  tot : totE R = T
  rep : ∀ its, Rep old its → Rep R its
  mx : ∀ t, (∀ e ∈ old, e.t ≤ t) → ∀ e ∈ R, e.t ≤ t
  mn : ∀ t, (∀ e ∈ old, t < e.t) → ∀ e ∈ R, t < e.t
theorem drop_at {p : List Eb} {F : Nat} {l : Nat} (h : ∀ (j : Nat) (e : Eb), F ≤ j → j < p.length → p[j]? = some e → e.lv = l) : ∀ e ∈ p.drop F, e.lv = l := fun e he => by
  obtain ⟨j, hj⟩ := List.getElem?_of_mem he
  rw [List.getElem?_drop] at hj
  exact h (F + j) e (by omega) (List.getElem?_eq_some_iff.1 hj).1 hj
theorem take_hi {L : Nat} {p : List Eb} (hs : p.Pairwise Ord) (hL : ∀ e ∈ p, L ≤ e.lv) : ∀ e ∈ p.take (fst L p p.length), L < e.lv := fun e he => by
  obtain ⟨j, hj⟩ := List.getElem?_of_mem he
  rw [List.getElem?_take] at hj
  split at hj
  · rename_i hjF
    rcases fst_stop L p p.length (Nat.le_refl _) with h0 | ⟨z, hz, hzl⟩
    · omega
    · have hzL := hL z (List.mem_of_getElem? hz)
      obtain ⟨a1, a2⟩ := List.getElem?_eq_some_iff.1 hz
      obtain ⟨b1, b2⟩ := List.getElem?_eq_some_iff.1 hj
      rcases Nat.lt_or_ge j (fst L p p.length - 1) with h | h
      · have := (List.pairwise_iff_getElem.1 hs j _ b1 a1 h).2
        rw [a2, b2] at this; omega
      · have : j = fst L p p.length - 1 := by omega
        subst this
        rw [hz] at hj; cases hj; omega
  · cases hj
theorem pw_two {es : List Eb} (h : es.Pairwise Ord) (i : Nat) (a b : Eb) (ha : es[i]? = some a) (hb : es[i + 1]? = some b) : a.t ≤ b.t ∧ b.lv ≤ a.lv := by
  obtain ⟨a1, a2⟩ := List.getElem?_eq_some_iff.1 ha
  obtain ⟨b1, b2⟩ := List.getElem?_eq_some_iff.1 hb
  have := List.pairwise_iff_getElem.1 h i (i + 1) a1 b1 (Nat.lt_succ_self _)
  rw [a2, b2] at this; exact this
theorem two_pw : ∀ {es : List Eb}, (∀ (i : Nat) (a b : Eb), es[i]? = some a → es[i + 1]? = some b → a.t ≤ b.t ∧ b.lv ≤ a.lv) → es.Pairwise Ord
  | [], _ => .nil
  | [x], _ => by simp
  | x :: y :: es, h => by
    have ih := two_pw (es := y :: es) fun i a b ha hb => h (i + 1) a b (by simpa using ha) (by simpa using hb)
    have h0 := h 0 x y rfl rfl
    refine List.pairwise_cons.2 ⟨fun z hz => ?_, ih⟩
    rcases List.mem_cons.1 hz with rfl | hz
    · exact h0
    · have := (List.pairwise_cons.1 ih).1 z hz
      exact ⟨by have := this.1; omega, by have := this.2; omega⟩
theorem PV.stop {k L T : Nat} {b : Int} {p lo : List Eb} (h : PV k L T p lo) (hc : cnt L p ≤ k + 1) (hT : T ≤ 900) (hfit : ∀ l, (k + 1) * 2 ^ l ≤ T + k → ((2 ^ l : Nat) : Int) ≤ b + 1) : PR k T b (p ++ lo) (p ++ lo) := by
  have hlo0 : ∀ l, L ≤ l → cnt l lo = 0 := fun l hl => cnt_zero fun e he => by have := h.low e he; omega
  have hp0 : ∀ l, l < L → cnt l p = 0 := fun l hl => cnt_zero fun e he => by have := h.hi e he; omega
  have hall : ∀ l, ∀ e ∈ p ++ lo, l < e.lv → k ≤ cnt l (p ++ lo) := fun l e he hl => by
    rw [cnt_app]
    rcases Nat.lt_or_ge l L with g | g
    · rw [h.cl l g]; omega
    · rcases List.mem_append.1 he with h1 | h1
      · have := h.cm l g e h1 hl; omega
      · have := h.low e h1; omega
  have hlv : ∀ e ∈ p ++ lo, ((2 ^ e.lv : Nat) : Int) ≤ b + 1 := fun e he => by
    refine hfit e.lv ?_
    have h1 := totlow (k := k) (L := e.lv) (es := p ++ lo) fun l hl => hall l e he hl
    have h2 := cnt_one he rfl
    have h3 : 1 * 2 ^ e.lv ≤ cnt e.lv (p ++ lo) * 2 ^ e.lv := Nat.mul_le_mul_right _ h2
    rw [h.tot] at h1
    rw [Nat.add_mul]; omega
  refine ⟨⟨⟨fun e he => ⟨h.rng e he, ?_⟩, pw_two h.srt, fun e0 he0 l hl => ⟨?_, fun hl2 => ?_⟩⟩, h.ok, hlv, by rw [h.tot]; exact hT⟩, h.tot, fun _ h => h, fun _ h => h, fun _ h => h⟩
  · have h1 := pow_le_tot he
    rw [h.tot] at h1
    rcases Nat.lt_or_ge e.lv 31 with g | g
    · omega
    · have : 2 ^ 31 ≤ 2 ^ e.lv := Nat.pow_le_pow_right (by omega) g
      omega
  · rw [cnt_app]
    rcases Nat.lt_trichotomy l L with g | g | g
    · rw [hp0 l g, h.cl l g]; omega
    · subst g; rw [hlo0 l (Nat.le_refl _)]; omega
    · rw [hlo0 l (by omega)]; have := h.ch l g; omega
  · exact hall l e0 (List.mem_of_getElem? he0) hl2
theorem casc_spec {k T : Nat} {b : Int} (hT : T ≤ 900) (hfit : ∀ l, (k + 1) * 2 ^ l ≤ T + k → ((2 ^ l : Nat) : Int) ≤ b + 1) : ∀ (f L : Nat) (p lo : List Eb), p.length ≤ f → PV k L T p lo → PR k T b (p ++ lo) (casc k f L p ++ lo) ∧ cOK k b f L p
  | 0, L, p, lo, hf, h => absurd (List.length_eq_zero_iff.1 (Nat.le_zero.1 hf)) h.ne
  | f + 1, L, p, lo, hf, h => by
    have hsp : p.Pairwise Ord := (List.pairwise_append.1 h.srt).1
    have hF := fst_le L p p.length
    have hdL : ∀ e ∈ p.drop (fst L p p.length), e.lv = L := drop_at fun j e h1 h2 h3 => fst_lv L p p.length j e h1 h2 h3
    have htL := take_hi hsp h.hi
    have hcp : ∀ l, cnt l p = cnt l (p.take (fst L p p.length)) + cnt l (p.drop (fst L p p.length)) := fun l => by rw [← cnt_app, List.take_append_drop]
    have hcL : cnt L p = p.length - fst L p p.length := by
      rw [hcp, cnt_zero (fun e he => by have := htL e he; omega), cnt_all hdL, List.length_drop]; omega
    generalize hFe : fst L p p.length = F at *
    by_cases hst : p.length - F < k + 2
    · rw [casc_stop (by rw [hFe]; exact hst)]
      refine ⟨h.stop (by omega) hT hfit, ?_⟩
      unfold cOK
      split
      · rename_i x y m hd
        left
        have := congrArg List.length hd
        rw [List.length_drop, hFe] at this
        simp only [List.length_cons] at this; omega
      · trivial
    · have hdl : (p.drop F).length = k + 2 := by rw [List.length_drop]; have := h.cL; omega
      obtain ⟨x, y, m, hd⟩ : ∃ x y m, p.drop F = x :: y :: m := by
        match hq : p.drop F, hdl with
        | [], h => simp at h
        | [_], h => simp at h
        | x :: y :: m, _ => exact ⟨x, y, m, rfl⟩
      have hm : m.length = k := by rw [hd] at hdl; simpa using hdl
      rw [hd] at hdL
      have lx := hdL x (by simp)
      have ly := hdL y (by simp)
      have lm : ∀ e ∈ m, e.lv = L := fun e he => hdL e (by simp [he])
      have hpe : p = p.take F ++ x :: y :: m := by rw [← hd, List.take_append_drop]
      have hpl : p ++ lo = p.take F ++ x :: y :: (m ++ lo) := by
        conv => lhs; rw [hpe]
        simp
      have hp'l : (p.take F ++ [mgB L x y]) ++ (m ++ lo) = p.take F ++ mgB L x y :: (m ++ lo) := by simp
      have hpow : 2 ^ (mgB L x y).lv = 2 ^ x.lv + 2 ^ y.lv := by
        show 2 ^ (L + 1) = _
        rw [lx, ly, Nat.pow_succ]; omega
      have htot : totE ((p.take F ++ [mgB L x y]) ++ (m ++ lo)) = T := by
        rw [hp'l, totE_mid _ _ x y _ hpow, ← hpl]; exact h.tot
      have hmem : ∀ e ∈ (p.take F ++ [mgB L x y]) ++ (m ++ lo), e ∈ p ++ lo ∨ e = mgB L x y := fun e he => by
        rw [hp'l] at he
        rw [hpl]
        simp only [List.mem_append, List.mem_cons] at he ⊢
        rcases he with he | he | he | he
        · exact .inl (.inl he)
        · exact .inr he
        · exact .inl (.inr (.inr (.inr (.inl he))))
        · exact .inl (.inr (.inr (.inr (.inr he))))
      have hxm : x ∈ p ++ lo := by rw [hpl]; simp
      have hym : y ∈ p ++ lo := by rw [hpl]; simp
      have hc' : ∀ l, cnt l (p.take F ++ [mgB L x y]) = cnt l (p.take F) + if l = L + 1 then 1 else 0 := fun l => by
        rw [cnt_app]
        by_cases hl : l = L + 1
        · rw [if_pos hl, cnt_all (l := l) (es := [mgB L x y]) (by intro e he; simp at he; subst he; exact hl.symm)]; rfl
        · rw [if_neg hl, cnt_zero (l := l) (es := [mgB L x y]) (by intro e he; simp at he; subst he; exact fun h => hl h.symm)]
      have hct : ∀ l, L < l → cnt l p = cnt l (p.take F) := fun l hl => by
        rw [hcp l, hd, cnt_zero (es := x :: y :: m) (fun e he => by have := hdL e he; omega), Nat.add_zero]
      have hPV : PV k (L + 1) T (p.take F ++ [mgB L x y]) (m ++ lo) := by
        refine ⟨?_, fun e he => ?_, fun e he => ?_, fun l hl => ?_, ?_, fun l hl => ?_, fun l hl e he hle => ?_, fun e he => ?_, fun e he => ?_, htot, by simp⟩
        · rw [hp'l]
          have hs := h.srt
          rw [hpl] at hs
          obtain ⟨s1, s2, s3⟩ := List.pairwise_append.1 hs
          obtain ⟨s4, s5⟩ := List.pairwise_cons.1 s2
          obtain ⟨s6, s7⟩ := List.pairwise_cons.1 s5
          refine List.pairwise_append.2 ⟨s1, List.pairwise_cons.2 ⟨fun z hz => ?_, s7⟩, fun a ha z hz => ?_⟩
          · have := s6 z hz
            refine ⟨this.1, ?_⟩
            have := this.2
            show z.lv ≤ L + 1
            omega
          · rcases List.mem_cons.1 hz with rfl | hz
            · exact ⟨(s3 a ha y (by simp)).1, htL a ha⟩
            · exact s3 a ha z (by simp [hz])
        · rcases List.mem_append.1 he with he | he
          · exact htL e he
          · simp at he; subst he; exact Nat.le_refl _
        · rcases List.mem_append.1 he with he | he
          · have := lm e he; omega
          · have := h.low e he; omega
        · rw [cnt_app]
          rcases Nat.lt_or_ge l L with g | g
          · rw [cnt_zero (fun e he => by have := lm e he; omega), h.cl l g]; omega
          · have : l = L := by omega
            subst this
            rw [cnt_all lm, cnt_zero (fun e he => by have := h.low e he; omega), hm, Nat.add_zero]
        · rw [hc', if_pos rfl, ← hct (L + 1) (Nat.lt_succ_self _)]
          have := h.ch (L + 1) (Nat.lt_succ_self _); omega
        · rw [hc', if_neg (by omega), ← hct _ (by omega)]
          exact h.ch l (by omega)
        · rw [hc', ← hct _ (by omega)]
          rcases List.mem_append.1 he with he | he
          · have := h.cm l (by omega) e (List.mem_of_mem_take he) hle; omega
          · simp at he; subst he
            have : l < L + 1 := hle
            omega
        · rcases hmem e he with h1 | rfl
          · exact h.rng e h1
          · exact h.rng y hym
        · rcases hmem e he with h1 | rfl
          · exact h.ok e h1
          · exact mgB_ok (h.ok x hxm) (h.ok y hym) lx ly
      have hlen : (p.take F ++ [mgB L x y]).length ≤ f := by
        have : p.length - F = k + 2 := by have := h.cL; omega
        simp; omega
      obtain ⟨ih1, ih2⟩ := casc_spec hT hfit f (L + 1) _ _ hlen hPV
      have hd' : p.drop (fst L p p.length) = x :: y :: m := by rw [hFe]; exact hd
      refine ⟨?_, ?_⟩
      · rw [casc_go hd' (by omega), hFe, List.append_assoc]
        refine ⟨ih1.db, ih1.tot, fun its hr => ih1.rep its ?_, fun t ht => ih1.mx t fun e he => ?_, fun t ht => ih1.mn t fun e he => ?_⟩
        · rw [hp'l]; rw [hpl] at hr; exact hr.mid
        · rcases hmem e he with h1 | rfl
          · exact ht e h1
          · exact ht y hym
        · rcases hmem e he with h1 | rfl
          · exact ht e h1
          · exact ht y hym
      · unfold cOK
        rw [hd']
        simp only []
        right
        rw [hFe]
        refine ⟨hfit (L + 1) ?_, ih2⟩
        have hcL2 : cnt L (p ++ lo) = k + 2 := by
          rw [cnt_app, cnt_zero (es := lo) (fun e he => by have := h.low e he; omega), hcL]
          have := h.cL; omega
        have := totlow (k := k) (L := L) (es := p ++ lo) fun l hl => by
          rw [cnt_app, h.cl l hl]; omega
        rw [hcL2, h.tot] at this
        rw [Nat.pow_succ]
        have e1 : (k + 1) * (2 ^ L * 2) = (k + 2) * 2 ^ L + k * 2 ^ L := by
          rw [Nat.add_mul, Nat.add_mul, Nat.one_mul]
          have : k * (2 ^ L * 2) = k * 2 ^ L + k * 2 ^ L := by rw [← Nat.mul_assoc]; omega
          omega
        omega
theorem insE_spec {k : Nat} {b : Int} {es : List Eb} {t v : Int} (hdb : DB es k b) (hlast : ∀ e ∈ es, e.t ≤ t) (t0 : 0 ≤ t) (t1 : t ≤ 16777216) (v0 : -4096 ≤ v) (v1 : v ≤ 4096) (hT : totE es + 1 ≤ 900)
    (hfit : ∀ l, (k + 1) * 2 ^ l ≤ totE es + 1 + k → ((2 ^ l : Nat) : Int) ≤ b + 1) :
    PR k (totE es + 1) b (es ++ [⟨t, v, 0, [v]⟩]) (insE k es t v) ∧ cOK k b (es.length + 1) 0 (es ++ [⟨t, v, 0, [v]⟩]) := by
  have hpw := two_pw hdb.vb.two
  have hc : ∀ l, cnt l (es ++ [⟨t, v, 0, [v]⟩]) = cnt l es + if l = 0 then 1 else 0 := fun l => by
    rw [cnt_snoc]
    by_cases hl : l = 0
    · rw [if_pos hl, if_pos hl.symm]
    · rw [if_neg hl, if_neg (fun h => hl h.symm)]
  have hup : ∀ l, cnt l es ≤ k + 1 := fun l => by
    by_cases h0 : ∃ e ∈ es, e.lv = l
    · obtain ⟨e, he, hl⟩ := h0
      match es, hdb, he, hpw with
      | x :: r, hdb, he, hpw =>
        refine (hdb.vb.cnt x rfl l ?_).1
        rcases List.mem_cons.1 he with rfl | he
        · omega
        · have := ((List.pairwise_cons.1 hpw).1 e he).2; omega
    · rw [cnt_zero (fun e he hl => h0 ⟨e, he, hl⟩)]; omega
  have hPV : PV k 0 (totE es + 1) (es ++ [⟨t, v, 0, [v]⟩]) [] := by
    refine ⟨?_, fun e _ => Nat.zero_le _, fun e he => absurd he List.not_mem_nil, fun l hl => absurd hl (Nat.not_lt_zero _), ?_, fun l hl => ?_, fun l _ e he hle => ?_, fun e he => ?_, fun e he => ?_, ?_, by simp⟩
    · rw [List.append_nil]
      refine List.pairwise_append.2 ⟨hpw, by simp, fun a ha z hz => ?_⟩
      simp at hz; subst hz
      exact ⟨hlast a ha, Nat.zero_le _⟩
    · rw [hc, if_pos rfl]; have := hup 0; omega
    · rw [hc, if_neg (by omega)]; have := hup l; omega
    · rw [hc]
      rcases List.mem_append.1 he with he | he
      · match es, hdb, he, hpw with
        | x :: r, hdb, he, hpw =>
          have hx : e.lv ≤ x.lv := by
            rcases List.mem_cons.1 he with rfl | he
            · exact Nat.le_refl _
            · exact ((List.pairwise_cons.1 hpw).1 e he).2
          have := (hdb.vb.cnt x rfl l (by omega)).2 (by omega); omega
      · simp at he; subst he; exact absurd hle (Nat.not_lt_zero _)
    · rw [List.append_nil] at he
      rcases List.mem_append.1 he with he | he
      · exact (hdb.vb.rng e he).1
      · simp at he; subst he; exact ⟨t0, t1⟩
    · rw [List.append_nil] at he
      rcases List.mem_append.1 he with he | he
      · exact hdb.ok e he
      · simp at he; subst he
        refine ⟨rfl, by simp [Asc], fun u hu => ?_, by simp⟩
        simp at hu; subst hu; exact ⟨v0, v1⟩
    · rw [List.append_nil, totE_app]; rfl
  have := casc_spec (b := b) (by omega) hfit (es.length + 1) 0 _ [] (by simp) hPV
  rw [List.append_nil, List.append_nil] at this
  exact this
theorem expE_drop (lo : Int) : ∀ es : List Eb, ∃ j, j ≤ es.length ∧ expE lo es = es.drop j ∧ (∀ e ∈ es.take j, e.t < lo) ∧ (∀ e, es[j]? = some e → lo ≤ e.t)
  | [] => ⟨0, Nat.le_refl _, rfl, fun e he => absurd he List.not_mem_nil, fun e he => by simp at he⟩
  | x :: es => by
    by_cases hx : x.t < lo
    · obtain ⟨j, h1, h2, h3, h4⟩ := expE_drop lo es
      refine ⟨j + 1, by simp; omega, ?_, fun e he => ?_, fun e he => h4 e (by simpa using he)⟩
      · show List.dropWhile _ _ = _
        rw [List.dropWhile_cons, if_pos (by simpa using hx)]; exact h2
      · rw [List.take_succ_cons] at he
        rcases List.mem_cons.1 he with rfl | he
        · exact hx
        · exact h3 e he
    · refine ⟨0, Nat.zero_le _, ?_, fun e he => absurd he List.not_mem_nil, fun e he => ?_⟩
      · show List.dropWhile _ _ = _
        rw [List.dropWhile_cons, if_neg (by simpa using hx)]; rfl
      · simp at he; subst he; omega
theorem DB.drop {es : List Eb} {k : Nat} {b : Int} (h : DB es k b) (j : Nat) : DB (es.drop j) k b := by
  have hpw := two_pw h.vb.two
  have htot : totE (es.drop j) ≤ totE es := by
    have := totE_app (es.take j) (es.drop j)
    rw [List.take_append_drop] at this; omega
  refine ⟨⟨fun e he => h.vb.rng e (List.mem_of_mem_drop he), fun i a c ha hc => ?_, fun e0 he0 l hl => ?_⟩, fun e he => h.ok e (List.mem_of_mem_drop he), fun e he => h.fit e (List.mem_of_mem_drop he), by have := h.tot; omega⟩
  · rw [List.getElem?_drop] at ha hc
    exact h.vb.two (j + i) a c ha (by rw [← hc]; congr 1)
  · rw [List.getElem?_drop, Nat.add_zero] at he0
    have hsp : cnt l es = cnt l (es.take j) + cnt l (es.drop j) := by rw [← cnt_app, List.take_append_drop]
    have hge : ∀ e ∈ es.take j, e0.lv ≤ e.lv := fun e he => by
      obtain ⟨i, hi⟩ := List.getElem?_of_mem he
      rw [List.getElem?_take] at hi
      split at hi
      · rename_i hij
        obtain ⟨a1, a2⟩ := List.getElem?_eq_some_iff.1 hi
        obtain ⟨b1, b2⟩ := List.getElem?_eq_some_iff.1 he0
        have := (List.pairwise_iff_getElem.1 hpw i j a1 b1 hij).2
        rw [a2, b2] at this; exact this
      · cases hi
    have hne : 0 < es.length := by have := (List.getElem?_eq_some_iff.1 he0).1; omega
    have h0 : es[0]? = some es[0] := List.getElem?_eq_getElem hne
    have hle : e0.lv ≤ (es[0]).lv := by
      rcases Nat.eq_zero_or_pos j with rfl | hj
      · rw [h0] at he0; cases he0; exact Nat.le_refl _
      · refine hge _ (List.mem_of_getElem? (i := 0) ?_)
        rw [List.getElem?_take, if_pos hj]; exact h0
    have hv := h.vb.cnt _ h0 l (by omega)
    refine ⟨by have := hv.1; omega, fun hl2 => ?_⟩
    have := hv.2 (by omega)
    rw [hsp, cnt_zero (fun e he => by have := hge e he; omega)] at this
    omega
theorem Its.pw {L : List It} {now : Int} (h : Its L now) : L.Pairwise fun a b => a.t ≤ b.t := by
  refine List.pairwise_iff_getElem.2 fun i j hi hj hij => ?_
  have := h.asc i j (by omega) hj
  unfold tAt at this
  rw [List.getElem?_eq_getElem hi, List.getElem?_eq_getElem hj] at this
  exact this
structure RQ (ad : List It) (now w0 : Int) (k : Nat) (b : Int) (cap : Nat) (es : List Eb) : Prop where
  its : Its ad now
  db : DB es k b
  tot : totE es ≤ cap
  live : ∀ e ∈ es, now - w0 < e.t ∧ e.t ≤ now
  rep : ∃ pre suf, ad = pre ++ suf ∧ Rep es suf ∧ ∀ x ∈ pre, x.t ≤ now - w0
theorem RQ.start (w0 : Int) (k : Nat) (b : Int) (cap : Nat) : RQ [] 0 w0 k b cap [] :=
  ⟨⟨Nat.zero_le _, fun x hx => absurd hx List.not_mem_nil, fun x hx => absurd hx List.not_mem_nil, fun i j _ hj => absurd hj (Nat.not_lt_zero _)⟩,
   ⟨⟨fun e he => absurd he List.not_mem_nil, fun i a b ha => by simp at ha, fun e0 h0 => by simp at h0⟩, fun e he => absurd he List.not_mem_nil, fun e he => absurd he List.not_mem_nil, Nat.zero_le _⟩,
   Nat.zero_le _, fun e he => absurd he List.not_mem_nil, [], [], rfl, rfl, fun x hx => absurd hx List.not_mem_nil⟩
theorem Grp.mem {e : Eb} {g : List It} (h : Grp e g) : ⟨e.t, e.last⟩ ∈ g := by
  obtain ⟨_, g', rfl⟩ := h; simp
theorem Rep.le {lo : Int} : ∀ {es : List Eb} {its : List It}, Rep es its → its.Pairwise (fun a b => a.t ≤ b.t) → (∀ e ∈ es, e.t < lo) → ∀ x ∈ its, x.t < lo
  | [], its, h, _, _, x, hx => by
    have h : its = [] := h
    subst h; cases hx
  | e :: es, its, h, hp, ht, x, hx => by
    obtain ⟨g, r, rfl, hg, hr⟩ := h
    obtain ⟨p1, p2, p3⟩ := List.pairwise_append.1 hp
    rcases List.mem_append.1 hx with hx | hx
    · obtain ⟨_, g', rfl⟩ := hg
      have h1 := ht e List.mem_cons_self
      rcases List.mem_append.1 hx with hx | hx
      · have := (List.pairwise_append.1 p1).2.2 x hx ⟨e.t, e.last⟩ (by simp)
        have : x.t ≤ e.t := this
        omega
      · simp at hx; subst hx; exact h1
    · exact hr.le p2 (fun z hz => ht z (List.mem_cons_of_mem _ hz)) x hx
theorem RQ.adv {ad : List It} {now now' w0 lo : Int} {k cap : Nat} {b : Int} {es : List Eb} (h : RQ ad now w0 k b cap es) (hn : now ≤ now') (hlo : ∀ t, 0 ≤ t → (t < lo ↔ t ≤ now' - w0)) : RQ ad now' w0 k b cap (expE lo es) := by
  obtain ⟨j, h1, h2, h3, h4⟩ := expE_drop lo es
  have hpw := two_pw h.db.vb.two
  rw [h2]
  have htot : totE (es.drop j) ≤ totE es := by
    have := totE_app (es.take j) (es.drop j)
    rw [List.take_append_drop] at this; omega
  refine ⟨⟨h.its.len, h.its.val, fun x hx => by have := h.its.tick x hx; omega, h.its.asc⟩, h.db.drop j, by have := h.tot; omega, fun e he => ?_, ?_⟩
  · have hes := List.mem_of_mem_drop he
    have ht0 := (h.db.vb.rng e hes).1.1
    have h5 := h.live e hes
    refine ⟨?_, by omega⟩
    obtain ⟨i, hi⟩ := List.getElem?_of_mem he
    rw [List.getElem?_drop] at hi
    obtain ⟨a1, a2⟩ := List.getElem?_eq_some_iff.1 hi
    have hj : es[j]? = some es[j] := List.getElem?_eq_getElem (by omega)
    have h6 := h4 _ hj
    have h7 : (es[j]).t ≤ e.t := by
      rcases Nat.eq_zero_or_pos i with rfl | hi0
      · rw [Nat.add_zero, hj] at hi; injection hi with hi; rw [hi]; exact Int.le_refl _
      · have := (List.pairwise_iff_getElem.1 hpw j (j + i) (by omega) a1 (by omega)).1
        rw [a2] at this; exact this
    have := hlo e.t ht0
    omega
  · obtain ⟨pre, suf, e1, e2, e3⟩ := h.rep
    rw [show es = es.take j ++ es.drop j from (List.take_append_drop j es).symm] at e2
    obtain ⟨i1, i2, rfl, r1, r2⟩ := Rep.app.1 e2
    refine ⟨pre ++ i1, i2, by rw [e1, List.append_assoc], r2, fun x hx => ?_⟩
    have hp := h.its.pw
    rw [e1] at hp
    rcases List.mem_append.1 hx with hx | hx
    · have := e3 x hx; omega
    · have hx0 := (h.its.tick x (by rw [e1]; simp [hx])).1
      exact (hlo x.t hx0).1 (r1.le (List.pairwise_append.1 (List.pairwise_append.1 hp).2.1).1 h3 x hx)
theorem RQ.add {ad : List It} {now w0 v : Int} {k cap : Nat} {b : Int} {es : List Eb} (h : RQ ad now w0 k b cap es) (n0 : 0 ≤ now) (hn : now ≤ 16777216) (hw : 1 ≤ w0) (v0 : -4096 ≤ v) (v1 : v ≤ 4096) (hl : ad.length < 80) (hc : totE es ≠ cap) (hcap : cap ≤ 900)
    (hfit : ∀ T l, T ≤ cap → (k + 1) * 2 ^ l ≤ T + k → ((2 ^ l : Nat) : Int) ≤ b + 1) :
    RQ (ad ++ [⟨now, v⟩]) now w0 k b cap (insE k es now v) ∧ cOK k b (es.length + 1) 0 (es ++ [⟨now, v, 0, [v]⟩]) := by
  have ht := h.tot
  obtain ⟨hP, hcok⟩ := insE_spec (t := now) (v := v) h.db (fun e he => (h.live e he).2) n0 hn v0 v1 (by omega) (fun l hl => hfit (totE es + 1) l (by omega) hl)
  refine ⟨⟨h.its.snoc ⟨now, v⟩ hl ⟨v0, v1⟩ n0 (Int.le_refl _), hP.db, by rw [hP.tot]; omega, fun e he => ⟨hP.mn (now - w0) (fun x hx => ?_) e he, hP.mx now (fun x hx => ?_) e he⟩, ?_⟩, hcok⟩
  · rcases List.mem_append.1 hx with hx | hx
    · exact (h.live x hx).1
    · simp at hx; subst hx; show now - w0 < now; omega
  · rcases List.mem_append.1 hx with hx | hx
    · exact (h.live x hx).2
    · simp at hx; subst hx; exact Int.le_refl _
  · obtain ⟨pre, suf, e1, e2, e3⟩ := h.rep
    exact ⟨pre, suf ++ [⟨now, v⟩], by rw [e1, List.append_assoc], hP.rep _ e2.snoc, e3⟩
def sureE : List Eb → List Int
  | [] => []
  | e :: r => r.foldl (fun a x => mg a x.vs) (if e.lv = 0 then e.vs else [e.last])
theorem sure_asc : ∀ (r : List Eb) (a : List Int), Asc a → (∀ e ∈ r, EbOK e) → Asc (r.foldl (fun a x => mg a x.vs) a)
  | [], a, h, _ => h
  | x :: r, a, h, hr => sure_asc r _ (mg_asc _ _ _ (Nat.le_refl _) h (hr x List.mem_cons_self).asc) fun e he => hr e (List.mem_cons_of_mem _ he)
theorem sure_perm : ∀ (r : List Eb) (a : List Int) (its : List It), Rep r its → (r.foldl (fun a x => mg a x.vs) a).Perm (a ++ vals its)
  | [], a, its, h => by
    have h : its = [] := h
    subst h
    show a.Perm (a ++ []); rw [List.append_nil]
  | x :: r, a, its, h => by
    obtain ⟨g, i, rfl, hg, hi⟩ := h
    have := sure_perm r (mg a x.vs) i hi
    refine this.trans ?_
    have h1 := mg_perm _ a x.vs (Nat.le_refl _)
    show (mg a x.vs ++ vals i).Perm (a ++ (g ++ i).map It.v)
    rw [List.map_append, ← List.append_assoc]
    exact (h1.trans (hg.1.append_left a)).append_right _
theorem sure_len : ∀ (r : List Eb) (a : List Int), (∀ e ∈ r, EbOK e) → (r.foldl (fun a x => mg a x.vs) a).length = a.length + totE r
  | [], a, _ => rfl
  | x :: r, a, h => by
    have := sure_len r (mg a x.vs) fun e he => h e (List.mem_cons_of_mem _ he)
    show (List.foldl _ (mg a x.vs) r).length = _
    rw [this, mg_len, (h x List.mem_cons_self).len, totE]; omega
theorem vs_one {e : Eb} (h : EbOK e) (hl : e.lv = 0) : e.vs = [e.last] := by
  have h1 := h.len
  rw [hl] at h1
  obtain ⟨v, hv⟩ := List.length_eq_one_iff.1 (show e.vs.length = 1 from h1)
  have := h.last
  rw [hv] at this ⊢
  simp at this; rw [this]
theorem sureE_cons {e : Eb} {r : List Eb} (h : EbOK e) : sureE (e :: r) = r.foldl (fun a x => mg a x.vs) [e.last] := by
  show r.foldl _ (if e.lv = 0 then e.vs else [e.last]) = _
  by_cases hl : e.lv = 0
  · rw [if_pos hl, vs_one h hl]
  · rw [if_neg hl]
theorem RQ.out {ad : List It} {now w0 : Int} {k cap : Nat} {b : Int} {e : Eb} {r : List Eb} (h : RQ ad now w0 k b cap (e :: r)) :
    ∃ X, (vals (ad.filter fun x => decide (now - w0 < x.t))).Perm (X ++ sureE (e :: r)) ∧ X.length + 1 ≤ 2 ^ e.lv ∧ k * 2 ^ e.lv + 1 ≤ (sureE (e :: r)).length + k ∧ Asc (sureE (e :: r)) := by
  have hoke := h.db.ok e List.mem_cons_self
  have hokr : ∀ x ∈ r, EbOK x := fun x hx => h.db.ok x (List.mem_cons_of_mem _ hx)
  obtain ⟨pre, suf, e1, e2, e3⟩ := h.rep
  obtain ⟨g, i, rfl, hg, hi⟩ := e2
  obtain ⟨hgp, g', rfl⟩ := hg
  have hp := h.its.pw
  rw [e1] at hp
  have hp2 := (List.pairwise_append.1 hp).2.1
  have hlive := (h.live e List.mem_cons_self).1
  have hil : ∀ x ∈ i, now - w0 < x.t := fun x hx => by
    have := (List.pairwise_append.1 hp2).2.2 ⟨e.t, e.last⟩ (by simp) x hx
    have : e.t ≤ x.t := this
    omega
  have hfi : i.filter (fun x => decide (now - w0 < x.t)) = i := List.filter_eq_self.2 fun x hx => by simpa using hil x hx
  have hfl : ad.filter (fun x => decide (now - w0 < x.t)) = g'.filter (fun x => decide (now - w0 < x.t)) ++ ([⟨e.t, e.last⟩] ++ i) := by
    rw [e1, List.filter_append, List.filter_append, List.filter_append, List.filter_eq_nil_iff.2 (fun x hx => by have := e3 x hx; simp; omega), hfi, List.nil_append, List.append_assoc, List.filter_cons, if_pos (by simpa using hlive)]
    rfl
  rw [sureE_cons hoke, hfl]
  refine ⟨vals (g'.filter fun x => decide (now - w0 < x.t)), ?_, ?_, ?_, sure_asc r _ (by simp [Asc]) hokr⟩
  · show (List.map It.v _).Perm _
    rw [List.map_append, List.map_append]
    exact ((sure_perm r [e.last] i hi).symm).append_left _
  · have h1 := hgp.length_eq
    rw [hoke.len] at h1
    have h2 := List.length_filter_le (fun x : It => decide (now - w0 < x.t)) g'
    rw [vals_len]
    simp at h1; omega
  · rw [sure_len r _ hokr]
    have h0 : (e :: r)[0]? = some e := rfl
    have h1 := totlow (k := k) (L := e.lv) (es := e :: r) fun l hl => (h.db.vb.cnt e h0 l (by omega)).2 hl
    have h2 := cnt_one (l := e.lv) (es := e :: r) List.mem_cons_self rfl
    have h3 : 1 * 2 ^ e.lv ≤ cnt e.lv (e :: r) * 2 ^ e.lv := Nat.mul_le_mul_right _ h2
    rw [totE] at h1
    show k * 2 ^ e.lv + 1 ≤ 1 + totE r + k
    omega
theorem RQ.none {ad : List It} {now w0 : Int} {k cap : Nat} {b : Int} (h : RQ ad now w0 k b cap []) : ad.filter (fun x => decide (now - w0 < x.t)) = [] := by
  obtain ⟨pre, suf, e1, e2, e3⟩ := h.rep
  have e2 : suf = [] := e2
  subst e2
  rw [e1, List.append_nil]
  exact List.filter_eq_nil_iff.2 fun x hx => by have := e3 x hx; simp; omega
theorem kc_le {K C s n : Nat} (h : 2 * K * C + 1 ≤ s + 2 * K) (hs : s ≤ n) (hC : 1 ≤ C) : K * (C - 1) ≤ n := by
  have e1 : 2 * K * C = 2 * (K * C) := Nat.mul_assoc ..
  have e2 : K * (C - 1) + K = K * C := by
    have : K * (C - 1 + 1) = K * (C - 1) + K := Nat.mul_succ ..
    rw [← this, Nat.sub_add_cancel hC]
  rw [e1] at h
  omega
theorem law_rank {L X S : List Int} {K C n : Nat} (v : Int) (hp : L.Perm (X ++ S)) (hX : X.length + 1 ≤ C) (hk : 2 * K * C + 1 ≤ S.length + 2 * K) (hn : L.length = n) :
    rk v S ≤ rk v L ∧ rk v L ≤ rk v S + (C - 1) ∧ K * (C - 1) ≤ n := by
  have h1 := rk_perm v hp
  rw [rk_app] at h1
  have h2 := rk_le v X
  have h3 := hp.length_eq
  rw [List.length_append] at h3
  exact ⟨by omega, by omega, kc_le hk (by omega) (by omega)⟩
theorem cei_spec {p n q : Nat} (hq : 0 < q) : p * n ≤ cei p n q * q ∧ cei p n q * q < p * n + q := by
  unfold cei
  have h2 := Nat.div_add_mod (p * n) q
  have h3 := Nat.mod_lt (p * n) hq
  rw [Nat.add_mul, Nat.mul_comm (p * n / q) q]
  split <;> omega
theorem cei_mono {p n x q : Nat} (hq : 0 < q) (hp : p ≤ q) : cei p n q ≤ cei p (n + x) q ∧ cei p (n + x) q ≤ cei p n q + x := by
  obtain ⟨a1, a2⟩ := cei_spec (p := p) (n := n) hq
  obtain ⟨b1, b2⟩ := cei_spec (p := p) (n := n + x) hq
  rw [Nat.mul_add] at b1 b2
  have hx : p * x ≤ q * x := Nat.mul_le_mul_right _ hp
  generalize cei p n q = c at *
  generalize cei p (n + x) q = d at *
  constructor
  · rcases Nat.lt_or_ge d c with g | g
    · have : (d + 1) * q ≤ c * q := Nat.mul_le_mul_right _ g
      rw [Nat.add_mul] at this; omega
    · exact g
  · rcases Nat.lt_or_ge (c + x) d with g | g
    · have : (c + x + 1) * q ≤ d * q := Nat.mul_le_mul_right _ g
      rw [Nat.add_mul, Nat.add_mul, Nat.mul_comm x q] at this; omega
    · exact g
theorem tgt_mono {p n x q : Nat} (hq : 0 < q) (hp : p ≤ q) : tgt p n q ≤ tgt p (n + x) q ∧ tgt p (n + x) q ≤ tgt p n q + x := by
  obtain ⟨h1, h2⟩ := cei_mono (n := n) (x := x) hq hp
  unfold tgt
  split <;> split <;> omega
theorem law_quant {L X S : List Int} {K C n N p q : Nat} {u : Int} {t : Int} (hp : L.Perm (X ++ S)) (hX : X.length + 1 ≤ C) (hk : 2 * K * C + 1 ≤ S.length + 2 * K) (hn : L.length = n) (hN : S.length = N) (hs : Asc S) (hq : 0 < q) (hpq : p ≤ q)
    (hu : S[tgt p N q - 1]? = some u) (ht : t = if 0 < p then ((tgt p n q : Nat) : Int) else 0) :
    rb u L + 1 ≤ rk u L ∧ (K : Int) * (((rb u L : Nat) : Int) + 1 - t - 1) ≤ n ∧ (K : Int) * (t - 1 - ((rk u L : Nat) : Int)) ≤ n := by
  have h1 := rk_perm u hp
  rw [rk_app] at h1
  have h2 := rb_perm u hp
  rw [rb_app] at h2
  have h3 := hp.length_eq
  rw [List.length_append, hn, hN] at h3
  have h4 := rk_split hs u _ u hu
  have h5 := rb_split hs u _ u hu
  have h6 := rb_le u X
  have h7 : rb u X ≤ rk u X := by
    unfold rb rk
    refine List.countP_mono_left fun x _ hx => ?_
    simp only [decide_eq_true_eq] at hx ⊢; omega
  have h8 : tgt p N q - 1 < rk u S := h4.1 (Int.le_refl _)
  have h9 : rb u S ≤ tgt p N q - 1 := by
    rcases Nat.lt_or_ge (tgt p N q - 1) (rb u S) with g | g
    · exact absurd (h5.2 g) (Int.lt_irrefl _)
    · exact g
  have hkn := kc_le (n := n) hk (by omega) (by omega)
  have hN0 : 0 < N := by have := (List.getElem?_eq_some_iff.1 hu).1; omega
  have ht0 : 1 ≤ tgt p N q := (tgt_rng (n := N) hq hpq hN0).1
  have htm := tgt_mono (p := p) (n := N) (x := X.length) hq hpq
  rw [show N + X.length = n from by omega] at htm
  have hb : ∀ z : Int, z ≤ ((C - 1 : Nat) : Int) → (K : Int) * z ≤ n := fun z hz => by
    have h1 : (K : Int) * z ≤ (K : Int) * ((C - 1 : Nat) : Int) := Int.mul_le_mul_of_nonneg_left hz (Int.natCast_nonneg _)
    have h2 : (K : Int) * ((C - 1 : Nat) : Int) = ((K * (C - 1) : Nat) : Int) := (Int.natCast_mul _ _).symm
    omega
  refine ⟨by omega, hb _ ?_, hb _ ?_⟩
  · by_cases hp0 : 0 < p
    · rw [if_pos hp0] at ht; omega
    · rw [if_neg hp0] at ht
      have : p = 0 := by omega
      subst this
      have : tgt 0 N q = 1 := by unfold tgt cei; simp
      omega
  · by_cases hp0 : 0 < p
    · rw [if_pos hp0] at ht; omega
    · rw [if_neg hp0] at ht; omega
end Go.Proofs.YtbageimconenlaaGreat
