/- Lists of marks: the clock moves on. -/
import Derived.Test.YtbageimconenlaaGreatNK
namespace Go.Proofs.YtbageimconenlaaGreat
open Go.RowKit En
set_option linter.unusedVariables false
def advM (now w0 : Int) : List Mk → List Mk
  | [] => []
  | [a] => if now - w0 < a.t then [a] else []
  | a :: b :: r => if now - w0 < b.t then a :: b :: r else advM now w0 (b :: r)
theorem advM_cut (now w0 : Int) (l : List Mk) (k : Nat) (b : Mk) (hb : l[k + 1]? = some b) (hd : ¬ now - w0 < b.t) : advM now w0 (l.drop (k + 1)) = advM now w0 (l.drop k) := by
  have hlt := (List.getElem?_eq_some_iff.1 hb).1
  have e1 : l.drop k = l[k] :: l.drop (k + 1) := List.drop_eq_getElem_cons (by omega)
  have e2 : l.drop (k + 1) = l[k + 1] :: l.drop (k + 2) := List.drop_eq_getElem_cons hlt
  have e3 : l[k + 1] = b := (List.getElem?_eq_some_iff.1 hb).2
  rw [e1, e2, e3, advM, if_neg hd]
theorem advM_stay (now w0 : Int) (l : List Mk) (k : Nat) (b : Mk) (hb : l[k + 1]? = some b) (hd : now - w0 < b.t) : advM now w0 (l.drop k) = l.drop k := by
  have hlt := (List.getElem?_eq_some_iff.1 hb).1
  have e1 : l.drop k = l[k] :: l.drop (k + 1) := List.drop_eq_getElem_cons (by omega)
  have e2 : l.drop (k + 1) = l[k + 1] :: l.drop (k + 2) := List.drop_eq_getElem_cons hlt
  have e3 : l[k + 1] = b := (List.getElem?_eq_some_iff.1 hb).2
  rw [e1, e2, e3, advM, if_pos hd]
theorem mkL_drop : ∀ (l : List Mk) (k : Nat), mkL (l.drop k) = (mkL l).drop (k * 7)
  | l, 0 => by simp
  | [], k + 1 => by simp [mkL]
  | x :: l, k + 1 => by
    rw [List.drop_succ_cons, mkL_drop l k, mkL, show (k + 1) * 7 = 7 + k * 7 by omega, ← List.drop_drop]
    rfl
/-- a slice of marks behind an empty one -/
theorem okm_copy (q : Nat) {D A0 k nd cc : Nat} {l : List Mk} {s : St} {o : Oper} {c : Call} {x y : Operand} {n : Nat} (hl : l.length = n) (hk : k + nd = n) (hlt : n < 1000000) (ho : o.op = .call c) (hcal : c.callee = .builtin .append) (hargs : c.args = #[x, y]) (hty : c.argTypes = #[34, 34])
    (hx : ev s x = some (.slice (some ⟨D, 0, none⟩) 0 0)) (hy : ev s y = some (.slice (some ⟨A0, k * 7, none⟩) nd cc)) (hD : En.lk s.σ D = some (.vec 203 7 [])) (hY : En.lk s.σ A0 = some (.view 7 (mkL l))) (hq : memB q s.al = false) :
    AOk Tryz.prog s o ⟨rq s [x, y], [(D, .vec 203 7 []), (A0, .view 7 (mkL l))]⟩ ⟨.slice (some ⟨q, 0, none⟩) (0 + nd) 0, [(D, .gone)], [(q, .vec 203 7 (mkL (l.drop k)))]⟩ := by
  obtain ⟨ie, z, hie, h1, h2, h3, h4⟩ := info203x
  have hE : mkL (l.drop k) = ([] : List Value).take (0 * 7) ++ mkL (l.drop k) := by simp
  refine ⟨fun B => ?_, ⟨fun t v h => rq_in h, fun n b h => ?_⟩, fun n b h => ?_, .inr fun n b h => ?_, fun n b h => ?_⟩
  · have := Does.append (P := Tryz.prog) (B := B) (s := s) (o := o) (c := c) (t := 34) (e := 203) (x := x) (y := y) (es := 7) (bytes := 56) (len := 0) (m := nd) (q := q) (xs := ([] : List Value).take (0 * 7)) (news := mkL (l.drop k)) (up := [(D, .gone)]) (σ := [(D, .vec 203 7 []), (A0, .view 7 (mkL l))]) ho hcal hargs hty Tryz.underlying34 hie h1 h2 h3 h4 (by decide) (.vec hx List.mem_cons_self (Nat.le_refl _)) (.box hy (List.mem_cons_of_mem _ List.mem_cons_self) (fun j v h => by rw [mkL_drop, List.getElem?_drop] at h; exact h) (by rw [mkL_len, List.length_drop, hl, ← hk, Nat.add_sub_cancel_left])) (fun u hu => ?_) (by unfold maxLen; omega) (by omega)
    · rw [← hE] at this
      exact this
    · have : flatC u = true := allFC_spec (allFC_mk _) u hu
      have h9 : ∀ l : List Mk, ∀ u ∈ mkL l, oneC u = true := fun l => by
        induction l with
        | nil => intro u hu; cases hu
        | cons m l ih =>
          intro u hu
          rw [mkL] at hu
          rcases List.mem_append.1 hu with h | h
          · simp only [mkC, List.mem_cons, List.not_mem_nil, or_false] at h; rcases h with rfl | rfl | rfl | rfl | rfl | rfl | rfl <;> rfl
          · exact ih u h
      exact h9 _ u hu
  · simp at h; rcases h with ⟨rfl, rfl⟩ | ⟨rfl, rfl⟩ <;> assumption
  · simp at h; obtain ⟨rfl, rfl⟩ := h; exact ⟨_, List.mem_cons_self, rfl⟩
  · simp at h; exact h.2
  · simp at h; rw [h.1]; intro hm; rw [memB_iff.2 hm] at hq; cases hq
set_option maxRecDepth 100000 in
set_option maxHeartbeats 4000000 in
theorem nm_adv (l : List Mk) (n : Nat) (now w0 : Int) (hl : l.length = n) (hn : n ≤ 1000) (n1 : 0 ≤ now) (n2 : now ≤ 16777216) (n3 : 1 ≤ w0) (n4 : w0 ≤ 1048576) (hT : ∀ m ∈ l, 0 ≤ m.t ∧ m.t ≤ now) (w : World) (A : Option Addr) (c : Nat) (h : SL w A n c 7 (mkL l)) :
    Calls Tryz.prog 204 #[.slice A n c, .int .i64 now, .int .i64 w0] w (fun e w' => ∃ A' c', e = .returned (.slice A' (advM now w0 l).length c') ∧ OwnK w' w.heap.size 203 7 (.slice A' (advM now w0 l).length c') (advM now w0 l).length (mkL (advM now w0 l)) ∧ Below w.heap.size w w') := by
  have H := fun_slice tblOK mixedP Tryz.func204 rfl (fun s => [s, .int .i64 now, .int .i64 w0]) n 7 (mkL l) h (by decide) (allFC_mk l) [.slice (some ⟨0, 0, none⟩) n 0, .int .i64 now, .int .i64 w0] rfl (fun _ => rfl) 38 [(0, .slice (some ⟨0, 0, none⟩) n 0), (1, .int .i64 now), (2, .int .i64 w0)] rfl rfl (by kernel_rfl) rfl rfl (fun u st => (u = .slice none 0 0 ∧ advM now w0 l = []) ∨ ∃ q m, u = .slice (some ⟨q, 0, none⟩) m 0 ∧ m = (advM now w0 l).length ∧ En.lk st.σ q = some (.vec 203 7 (mkL (advM now w0 l)))) (by
    repeat' (first
      | refine AR.auto rfl ?_
      | refine AR.nil ?_
      | refine KF.mk ?_
      | refine KT.mk (by kernel_rfl) ?_
      | refine SQ.normal ?_
      | refine AC.seq ?_
      | refine AC.regF ?_
      | refine AC.regT ?_
      | refine AC.condT rfl ?_
      | refine AC.condF rfl ?_
      | refine AC.block ?_
      | refine BQ.normal ?_
      | refine BQ.ret ?_
      | refine BQ.here ?_
      | refine BQ.there rfl ?_
      | refine SQ.ret ?_
      | refine SQ.exit ?_
      | refine AC.ret ?_
      | refine AC.exit ?_
      | refine AC.skip ?_
      | (refine AR.split rfl (fun h => ?_) (fun h => ?_) <;> rw [h])
      | (refine AC.cond rfl (fun h => ?_) (fun h => ?_) <;> rw [h])
      | refine FQ.ret rfl rfl ?_
      | refine FQ.normal rfl rfl ?_)
    refine AC.loop (fun m st => ∃ k : Nat, m = n - k ∧ k ≤ n ∧ advM now w0 (l.drop k) = advM now w0 l ∧ st = ⟨[(2, .int .i64 w0), (1, .int .i64 now), (0, .slice (some ⟨0, k * 7, none⟩) (n - k) k)], [(0, .view 7 (mkL l))], [0], 38⟩) n _ ?_ ⟨0, rfl, Nat.zero_le _, by rw [List.drop_zero], rfl⟩ ?_
    · rw [Nat.zero_mul, Nat.sub_zero]
      exact Ren.mv (tabF []) rfl (fun k hk => by match k, hk with | 0, _ => exact ⟨rfl, rfl⟩) ⟨⟨rfl, rfl⟩, ⟨rfl, rfl⟩, ⟨rfl, rfl⟩, trivial⟩ ⟨⟨by rw [mv_mkv]; rfl, rfl, allNC_mk _ _⟩, trivial⟩ rfl
    intro m st hi
    obtain ⟨k, rfl, hkn', hadv, rfl⟩ := hi
    have hkn : k + (n - k) = n := by omega
    by_cases hlt : 1 < n - k
    · have hd : decide (((n - k : Nat) : Int) > 1) = true := by simp only [decide_eq_true_eq]; omega
      obtain ⟨b, hb⟩ : ∃ b, l[k + 1]? = some b := ⟨l[k + 1]'(by omega), List.getElem?_eq_getElem (by omega)⟩
      have ek : k * 7 + 7 = (k + 1) * 7 := by omega
      have ek2 : n - k - 1 = n - (k + 1) := by omega
      by_cases hlv : now - w0 < b.t
      · have hd2 : decide (now - w0 < b.t) = true := by simp only [decide_eq_true_eq]; exact hlv
        have hd3 : (((n - k : Nat) : Int) == 1) = false := by rw [beq_eq_false_iff_ne]; omega
        rw [advM_stay now w0 l k b hb hlv] at hadv
        repeat' (first
          | rw [hd]
          | rw [hd2]
          | rw [hd3]
          | refine AR.auto rfl ?_
          | refine AR.man (okm_idx (A0 := 0) (i := 1) rfl rfl rfl rfl (nonE_mkv 7 (by omega)) (by omega)) rfl rfl rfl ?_
          | refine AR.man (ok_ld (A0 := 0) (u := b.t) rfl rfl rfl (by show (mkL l)[_]? = _; rw [show k * 7 + 1 * 7 + 1 = (k + 1) * 7 + 1 from by omega, mkL_at l _ 1 b hb (by decide)]; rfl)) rfl rfl rfl ?_
          | refine AR.man (ok_nc_live (now := now) (w0 := w0) (t := b.t) n1 n2 n3 n4 (hT b (List.mem_of_getElem? hb)).1 (hT b (List.mem_of_getElem? hb)).2 rfl rfl rfl) rfl rfl rfl ?_
          | refine AR.man (okm_copy 2 hl hkn (by omega) rfl rfl rfl rfl rfl rfl rfl rfl rfl) rfl rfl rfl ?_
          | refine AR.nil ?_
          | refine KF.mk ?_
          | refine KT.mk (by kernel_rfl) ?_
          | refine SQ.normal ?_
          | refine AC.seq ?_
          | refine AC.regF ?_
          | refine AC.regT ?_
          | refine AC.condT rfl ?_
          | refine AC.condF rfl ?_
          | refine AC.block ?_
          | refine BQ.normal ?_
          | refine BQ.ret ?_
          | refine BQ.here ?_
          | refine BQ.there rfl ?_
          | refine SQ.ret ?_
          | refine SQ.exit ?_
          | refine AC.ret ?_
          | refine AC.exit ?_
          | refine AC.skip ?_
          | (refine AR.split rfl (fun h => ?_) (fun h => ?_) <;> rw [h])
          | (refine AC.cond rfl (fun h => ?_) (fun h => ?_) <;> rw [h])
          | refine FQ.ret rfl rfl ?_
          | refine FQ.normal rfl rfl ?_)
        exact .inr ⟨2, _, rfl, by rw [← hadv, List.length_drop, hl, Nat.zero_add], by rw [← hadv]; rfl⟩
      · have hd2 : decide (now - w0 < b.t) = false := by simp only [decide_eq_false_iff_not]; exact hlv
        repeat' (first
          | rw [hd]
          | rw [hd2]
          | refine AR.auto rfl ?_
          | refine AR.man (okm_idx (A0 := 0) (i := 1) rfl rfl rfl rfl (nonE_mkv 7 (by omega)) (by omega)) rfl rfl rfl ?_
          | refine AR.man (ok_ld (A0 := 0) (u := b.t) rfl rfl rfl (by show (mkL l)[_]? = _; rw [show k * 7 + 1 * 7 + 1 = (k + 1) * 7 + 1 from by omega, mkL_at l _ 1 b hb (by decide)]; rfl)) rfl rfl rfl ?_
          | refine AR.man (ok_nc_live (now := now) (w0 := w0) (t := b.t) n1 n2 n3 n4 (hT b (List.mem_of_getElem? hb)).1 (hT b (List.mem_of_getElem? hb)).2 rfl rfl rfl) rfl rfl rfl ?_
          | refine AR.man (okm_cut rfl rfl rfl (nonE_mkv 7 (by omega)) (by omega) (fun B ρ w hbx => by have h9 := hbx.2.1; rw [mkL_len] at h9; omega)) rfl rfl rfl ?_
          | refine AR.nil ?_
          | refine KF.mk ?_
          | refine KT.mk (by kernel_rfl) ?_
          | refine SQ.normal ?_
          | refine AC.seq ?_
          | refine AC.regF ?_
          | refine AC.regT ?_
          | refine AC.condT rfl ?_
          | refine AC.condF rfl ?_
          | refine AC.block ?_
          | refine BQ.normal ?_
          | refine BQ.ret ?_
          | refine BQ.here ?_
          | refine BQ.there rfl ?_
          | refine SQ.ret ?_
          | refine SQ.exit ?_
          | refine AC.ret ?_
          | refine AC.exit ?_
          | refine AC.skip ?_
          | (refine AR.split rfl (fun h => ?_) (fun h => ?_) <;> rw [h])
          | (refine AC.cond rfl (fun h => ?_) (fun h => ?_) <;> rw [h])
          | refine FQ.ret rfl rfl ?_
          | refine FQ.normal rfl rfl ?_)
        refine ⟨n - (k + 1), _, by omega, ?_, k + 1, rfl, by omega, by rw [advM_cut now w0 l k b hb hlv]; exact hadv, rfl⟩
        rw [← ek, ← ek2]
        exact Ren.mv (tabF []) rfl (fun k hk => by match k, hk with | 0, _ => exact ⟨rfl, rfl⟩) ⟨⟨rfl, rfl⟩, ⟨rfl, rfl⟩, ⟨rfl, rfl⟩, trivial⟩ ⟨⟨by rw [mv_mkv]; rfl, rfl, allNC_mk _ _⟩, trivial⟩ rfl
    · have hd : decide (((n - k : Nat) : Int) > 1) = false := by simp only [decide_eq_false_iff_not]; omega
      by_cases h1 : n - k = 1
      · have hd3 : (((n - k : Nat) : Int) == 1) = true := by rw [h1]; rfl
        obtain ⟨a, ha⟩ : ∃ a, l[k]? = some a := ⟨l[k]'(by omega), List.getElem?_eq_getElem (by omega)⟩
        have e1 : l.drop k = [a] := by
          rw [List.drop_eq_getElem_cons (by omega), List.drop_eq_nil_of_le (by omega)]
          rw [(List.getElem?_eq_some_iff.1 ha).2]
        rw [e1, advM] at hadv
        by_cases hlv : now - w0 < a.t
        · have hd2 : decide (now - w0 < a.t) = true := by simp only [decide_eq_true_eq]; exact hlv
          rw [if_pos hlv] at hadv
          repeat' (first
            | rw [hd]
            | rw [hd2]
            | rw [hd3]
            | refine AR.auto rfl ?_
            | refine AR.man (okm_idx (A0 := 0) (i := 0) rfl rfl rfl rfl (nonE_mkv 7 (by omega)) (by omega)) rfl rfl rfl ?_
            | refine AR.man (ok_ld (A0 := 0) (u := a.t) rfl rfl rfl (by show (mkL l)[_]? = _; rw [show k * 7 + 0 * 7 + 1 = k * 7 + 1 from by omega, mkL_at l _ 1 a ha (by decide)]; rfl)) rfl rfl rfl ?_
            | refine AR.man (ok_nc_live (now := now) (w0 := w0) (t := a.t) n1 n2 n3 n4 (hT a (List.mem_of_getElem? ha)).1 (hT a (List.mem_of_getElem? ha)).2 rfl rfl rfl) rfl rfl rfl ?_
            | refine AR.man (okm_copy 2 hl hkn (by omega) rfl rfl rfl rfl rfl rfl rfl rfl rfl) rfl rfl rfl ?_
            | refine AR.nil ?_
            | refine KF.mk ?_
            | refine KT.mk (by kernel_rfl) ?_
            | refine SQ.normal ?_
            | refine AC.seq ?_
            | refine AC.regF ?_
            | refine AC.regT ?_
            | refine AC.condT rfl ?_
            | refine AC.condF rfl ?_
            | refine AC.block ?_
            | refine BQ.normal ?_
            | refine BQ.ret ?_
            | refine BQ.here ?_
            | refine BQ.there rfl ?_
            | refine SQ.ret ?_
            | refine SQ.exit ?_
            | refine AC.ret ?_
            | refine AC.exit ?_
            | refine AC.skip ?_
            | (refine AR.split rfl (fun h => ?_) (fun h => ?_) <;> rw [h])
            | (refine AC.cond rfl (fun h => ?_) (fun h => ?_) <;> rw [h])
            | refine FQ.ret rfl rfl ?_
            | refine FQ.normal rfl rfl ?_)
          exact .inr ⟨2, _, rfl, by rw [← hadv, Nat.zero_add, h1]; rfl, by rw [← hadv, ← e1]; rfl⟩
        · have hd2 : decide (now - w0 < a.t) = false := by simp only [decide_eq_false_iff_not]; exact hlv
          rw [if_neg hlv] at hadv
          repeat' (first
            | rw [hd]
            | rw [hd2]
            | rw [hd3]
            | refine AR.auto rfl ?_
            | refine AR.man (okm_idx (A0 := 0) (i := 0) rfl rfl rfl rfl (nonE_mkv 7 (by omega)) (by omega)) rfl rfl rfl ?_
            | refine AR.man (ok_ld (A0 := 0) (u := a.t) rfl rfl rfl (by show (mkL l)[_]? = _; rw [show k * 7 + 0 * 7 + 1 = k * 7 + 1 from by omega, mkL_at l _ 1 a ha (by decide)]; rfl)) rfl rfl rfl ?_
            | refine AR.man (ok_nc_live (now := now) (w0 := w0) (t := a.t) n1 n2 n3 n4 (hT a (List.mem_of_getElem? ha)).1 (hT a (List.mem_of_getElem? ha)).2 rfl rfl rfl) rfl rfl rfl ?_
            | refine AR.man (okm_copy 2 hl hkn (by omega) rfl rfl rfl rfl rfl rfl rfl rfl rfl) rfl rfl rfl ?_
            | refine AR.nil ?_
            | refine KF.mk ?_
            | refine KT.mk (by kernel_rfl) ?_
            | refine SQ.normal ?_
            | refine AC.seq ?_
            | refine AC.regF ?_
            | refine AC.regT ?_
            | refine AC.condT rfl ?_
            | refine AC.condF rfl ?_
            | refine AC.block ?_
            | refine BQ.normal ?_
            | refine BQ.ret ?_
            | refine BQ.here ?_
            | refine BQ.there rfl ?_
            | refine SQ.ret ?_
            | refine SQ.exit ?_
            | refine AC.ret ?_
            | refine AC.exit ?_
            | refine AC.skip ?_
            | (refine AR.split rfl (fun h => ?_) (fun h => ?_) <;> rw [h])
            | (refine AC.cond rfl (fun h => ?_) (fun h => ?_) <;> rw [h])
            | refine FQ.ret rfl rfl ?_
            | refine FQ.normal rfl rfl ?_)
          exact .inl ⟨rfl, hadv.symm⟩
      · have hd3 : (((n - k : Nat) : Int) == 1) = false := by rw [beq_eq_false_iff_ne]; omega
        have e1 : l.drop k = [] := List.drop_eq_nil_of_le (by omega)
        rw [e1, advM] at hadv
        repeat' (first
          | rw [hd]
          | rw [hd3]
          | refine AR.auto rfl ?_
          | refine AR.man (okm_idx (A0 := 0) (i := 0) rfl rfl rfl rfl (nonE_mkv 7 (by omega)) (by omega)) rfl rfl rfl ?_
          | refine AR.man (ok_ld (A0 := 0) (u := a.t) rfl rfl rfl (by show (mkL l)[_]? = _; rw [show k * 7 + 0 * 7 + 1 = k * 7 + 1 from by omega, mkL_at l _ 1 a ha (by decide)]; rfl)) rfl rfl rfl ?_
          | refine AR.man (ok_nc_live (now := now) (w0 := w0) (t := a.t) n1 n2 n3 n4 (hT a (List.mem_of_getElem? ha)).1 (hT a (List.mem_of_getElem? ha)).2 rfl rfl rfl) rfl rfl rfl ?_
          | refine AR.man (okm_copy 2 hl hkn (by omega) rfl rfl rfl rfl rfl rfl rfl rfl rfl) rfl rfl rfl ?_
          | refine AR.nil ?_
          | refine KF.mk ?_
          | refine KT.mk (by kernel_rfl) ?_
          | refine SQ.normal ?_
          | refine AC.seq ?_
          | refine AC.regF ?_
          | refine AC.regT ?_
          | refine AC.condT rfl ?_
          | refine AC.condF rfl ?_
          | refine AC.block ?_
          | refine BQ.normal ?_
          | refine BQ.ret ?_
          | refine BQ.here ?_
          | refine BQ.there rfl ?_
          | refine SQ.ret ?_
          | refine SQ.exit ?_
          | refine AC.ret ?_
          | refine AC.exit ?_
          | refine AC.skip ?_
          | (refine AR.split rfl (fun h => ?_) (fun h => ?_) <;> rw [h])
          | (refine AC.cond rfl (fun h => ?_) (fun h => ?_) <;> rw [h])
          | refine FQ.ret rfl rfl ?_
          | refine FQ.normal rfl rfl ?_)
        exact .inr ⟨2, _, rfl, by rw [← hadv, Nat.zero_add]; show n - k = 0; omega, by rw [← hadv, ← e1]; rfl⟩)
  refine H.mono fun e w' he => ?_
  obtain ⟨u, st, ρ, a, hu, rfl, hs⟩ := he
  rcases hu with ⟨rfl, h0⟩ | ⟨q, m, rfl, rfl, hq⟩
  · rw [h0]
    exact ⟨none, 0, rfl, OwnK.nil_ _ _ _ _, hs.bl⟩
  · obtain ⟨A', c', h3, h4⟩ := vec_own (n := (advM now w0 l).length) (hs.bx _ _ hq).1 (by rw [mkL_len]) (by decide) (allFC_mk _)
    exact ⟨A', c', by rw [show rV ρ (.slice (some ⟨q, 0, none⟩) (advM now w0 l).length 0) = rC ρ (.slice (some ⟨q, 0, none⟩) (advM now w0 l).length 0) from rfl, h3], h4, hs.bl⟩
end Go.Proofs.YtbageimconenlaaGreat
