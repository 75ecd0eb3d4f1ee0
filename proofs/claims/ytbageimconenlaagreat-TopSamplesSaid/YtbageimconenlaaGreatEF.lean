/- Samples: the contracts of the law's callees, for the engine. -/
import Derived.Test.YtbageimconenlaaGreatED
import Derived.Test.YtbageimconenlaaGreatMB
import Derived.Test.YtbageimconenlaaGreatGB
import Derived.Test.YtbageimconenlaaGreatSz
import Derived.Test.YtbageimconenlaaGreatCx
namespace Go.Proofs.YtbageimconenlaaGreat
open Go.RowKit En
set_option linter.unusedVariables false
def plA (p : Pl) : Option Addr := bif p.nil then p.alt else some ⟨p.b, p.o, none⟩
def synD (W : Int) (cs : List Ch) (p : Pl) (w : World) : Prop := HSy w w.heap.size W 64 (.agg (syn9 W 64 (plA p) cs.length p.cap)) cs
/-- a synopsis of n chains whose rows bear the name q -/
def synV (W : Int) (n q : Nat) : Value := .agg (syn9 W 64 (some ⟨q, 0, none⟩) n 0)
theorem synV_r (ρ : (Nat → Pl)) (W : Int) (n q : Nat) : rV ρ (synV W n q) = .agg (syn9 W 64 (plA (ρ q)) n (ρ q).cap) := rfl
theorem syn_box {B base q : Nat} {ρ : (Nat → Pl)} {w : World} {W : Int} {v : Value} {cs : List Ch} (h : HOy w base W 64 v cs) :
    ∃ p : Pl, v = .agg (syn9 W 64 (plA p) cs.length p.cap) ∧ BoxOK B (upd ρ q p) w q (.deep (synD W cs)) ∧ ∀ g, p.fp g → base ≤ g := by
  have h0 := h
  obtain ⟨A, k, ps, rfl, hp, h⟩ := h
  have main : ∀ p : Pl, plA p = A → p.cap = k → p.fp = (fun g => base ≤ g ∧ g < w.heap.size) → ∃ p : Pl, Value.agg (syn9 W 64 A cs.length k) = .agg (syn9 W 64 (plA p) cs.length p.cap) ∧ BoxOK B (upd ρ q p) w q (.deep (synD W cs)) ∧ ∀ g, p.fp g → base ≤ g := by
    intro p h1 h2 h3
    refine ⟨p, by rw [h1, h2], ?_, fun g hg => by rw [h3] at hg; exact hg.1⟩
    unfold BoxOK
    rw [upd_same]
    refine ⟨fun g hg => by rw [h3] at hg; exact hg.2, fun w' hs hk => ?_⟩
    unfold synD
    rw [h1, h2]
    have h4 : OCs w' base W 64 A cs.length k ps := h.keep fun g g1 g2 => hk g (by rw [h3]; exact ⟨g1, g2⟩)
    exact HOy.hsy ⟨A, k, ps, rfl, hp, h4⟩
  rcases h.row.2 with ⟨hv, hn⟩ | ⟨g, o, cap, cur, hv, _⟩
  · injection hv with e1 e2 e3
    exact main ⟨0, 0, k, true, _, none⟩ (by rw [e1]; rfl) rfl rfl
  · injection hv with e1 e2 e3
    exact main ⟨g, o, k, false, _, none⟩ (by rw [e1]; rfl) rfl rfl
theorem syn_get {B : Nat} {ρ : (Nat → Pl)} {w : World} {n : Nat} {W : Int} {cs : List Ch} (h : BoxOK B ρ w n (.deep (synD W cs))) : HSy w w.heap.size W 64 (.agg (syn9 W 64 (plA (ρ n)) cs.length (ρ n).cap)) cs := h.2 w (Nat.le_refl _) fun _ _ => rfl
theorem allFC_ints (l : List Int) : allFC (l.map (Value.int .i64)) = true := by
  induction l with
  | nil => rfl
  | cons x l ih => show (true && _) = true; rw [ih]; rfl
theorem ints_vec {B : Nat} {ρ : (Nat → Pl)} {w : World} {q : Nat} {l : List Int} (h : BoxOK B ρ w q (.vec 2 1 (l.map (Value.int .i64)))) : ∃ A c, rC ρ (.slice (some ⟨q, 0, none⟩) l.length 0) = .slice A l.length c ∧ Sl w w.heap.size A l.length (l.map (Value.int .i64)) := by
  obtain ⟨A, c, h1, h2⟩ := vec_own (n := l.length) h (by simp) (by decide) (allFC_ints l)
  exact ⟨A, c, h1, h2.sl.sl⟩
section
variable {s : St} {o : Oper} {c : Call}
theorem ent6 : Enters Tryz.prog 6 := enters Tryz.func6 (by kernel_rfl) (by kernel_rfl)
theorem ent8 : Enters Tryz.prog 8 := enters Tryz.func8 (by kernel_rfl) (by kernel_rfl)
theorem ent9 : Enters Tryz.prog 9 := enters Tryz.func9 (by kernel_rfl) (by kernel_rfl)
theorem ent10 : Enters Tryz.prog 10 := enters Tryz.func10 (by kernel_rfl) (by kernel_rfl)
theorem ent11 : Enters Tryz.prog 11 := enters Tryz.func11 (by kernel_rfl) (by kernel_rfl)
theorem ent12 : Enters Tryz.prog 12 := enters Tryz.func12 (by kernel_rfl) (by kernel_rfl)
theorem retI_flat {v : Int} {w w' : World} {e : Ending} (h : RetI v w e w') : e = .returned (.int .i64 v) ∧ Below w.heap.size w w' := by
  obtain ⟨h1, rfl⟩ := h
  exact ⟨h1, Below.refl _ _⟩
theorem ok_f6 {a n : Int} (hn : 1 ≤ n) (hn2 : n ≤ 9223372036854775807) (ho : o.op = .call c) (hc : c.callee = .value (.func 6)) (hargs : evs s c.args.toList = some [.int .i64 a, .int .i64 n]) : AOk Tryz.prog s o ⟨rq s c.args.toList, []⟩ ⟨.int .i64 (a % n), [], []⟩ :=
  AOk.call (fun w => (made_mod' a n hn hn2 w).mono fun e w' h => retI_flat h) ent6 ho hc hargs rfl rfl
theorem ok_f8 {a n : Int} (hn : 1 ≤ n) (hn2 : n ≤ 9223372036854775807) (ho : o.op = .call c) (hc : c.callee = .value (.func 8)) (hargs : evs s c.args.toList = some [.int .i64 a, .int .i64 n]) : AOk Tryz.prog s o ⟨rq s c.args.toList, []⟩ ⟨.int .i64 (a % n), [], []⟩ :=
  AOk.call (fun w => (made_int a n hn hn2 w).mono fun e w' h => retI_flat h) ent8 ho hc hargs rfl rfl
theorem ok_f10 {a : Int} (ha : -9223372036854775808 ≤ a ∧ a ≤ 9223372036854775807) (ho : o.op = .call c) (hc : c.callee = .value (.func 10)) (hargs : evs s c.args.toList = some [.int .i64 a]) : AOk Tryz.prog s o ⟨rq s c.args.toList, []⟩ ⟨.int .i64 (valM a), [], []⟩ :=
  AOk.call (fun w => (made_value a ha w).mono fun e w' h => retI_flat h) ent10 ho hc hargs rfl rfl
theorem ok_f7 (q n : Nat) {W : Int} (hn1 : 1 ≤ n) (hn2 : n ≤ 16) (h1 : 1 ≤ W) (h2 : W ≤ 1048576) (ho : o.op = .call c) (hc : c.callee = .value (.func 7)) (hargs : evs s c.args.toList = some [.agg #[.int .i64 9, .int .i64 0, .int .i64 W, .int .i64 0, .int .i64 64, .int .i64 0, .int .i64 n, .int .i64 0], .int .i64 0]) (hq : memB q s.al = false) :
    AOk Tryz.prog s o ⟨rq s c.args.toList, []⟩ ⟨.tuple #[synV W n q, .int .i64 0], [], [(q, .deep (synD W (List.replicate n ch0)))]⟩ := by
  refine .callG ent7 ho hc hargs (fun n b h => no_mem h) (fun n b h => no_mem h) (.inr fun n b h => no_mem h) (fun n b h => ?_) (fun al _ _ => ⟨(nbV_NB (al := [q]) (by simp [nbV, allN1, nb1, nbC, synV, syn9, allNC, memB])).mono (fun n hn => by simp at hn ⊢; exact .inl hn), fun n b h => no_mem h, fun n b h v hv => ?_⟩) fun B ρ w al hB _ _ _ _ => ?_
  · simp at h; rw [h.1]; intro hm; rw [memB_iff.2 hm] at hq; cases hq
  · simp at h; obtain ⟨rfl, rfl⟩ := h; cases hv
  · refine (synnew_9 n W 64 0 w hn1 hn2 h1 h2 (by decide) (by decide) (by decide) (by decide)).mono fun e w' he => ?_
    obtain ⟨⟨v', rfl, hO⟩, hb⟩ := he
    obtain ⟨p, rfl, hbox, hfp⟩ := syn_box (B := B) (q := q) (ρ := ρ) hO
    refine ⟨upd ρ q p, ?_, Eff.newBelow hb hbox hfp⟩
    rw [List.length_replicate]
    show _ = Ending.returned (.tuple #[.agg (syn9 W 64 (plA (upd ρ q p q)) n (upd ρ q p q).cap), .int .i64 0])
    rw [upd_same]
theorem ok_f9 (q : Nat) {A0 n : Nat} (ho : o.op = .call c) (hc : c.callee = .value (.func 9)) (hargs : evs s c.args.toList = some [.slice (some ⟨A0, 0, none⟩) n 0]) (hA : memB A0 s.al = true) (hq : memB q s.al = false) :
    AOk Tryz.prog s o ⟨rq s c.args.toList, []⟩ ⟨.pointer (some ⟨q, 0, none⟩), [], [(q, .row 124 [.slice (some ⟨A0, 0, none⟩) n 0, .int .i64 0])]⟩ := by
  have hne : A0 ≠ q := by rintro rfl; rw [hA] at hq; cases hq
  refine .callG ent9 ho hc hargs (fun n b h => no_mem h) (fun n b h => no_mem h) (.inr fun n b h => no_mem h) (fun n b h => ?_) (fun al hv _ => ⟨NB.ptr (by simp), fun n b h => no_mem h, fun n' b h v hv' => ?_⟩) fun B ρ w al hB _ hvs _ hfr => ?_
  · simp at h; rw [h.1]; intro hm; rw [memB_iff.2 hm] at hq; cases hq
  · simp at h; obtain ⟨rfl, rfl⟩ := h
    have h1 : NBc al (.slice (some ⟨A0, 0, none⟩) n 0) := fun ρ ρ' ha => hv _ List.mem_cons_self ρ ρ' ha
    rcases List.mem_cons.1 hv' with e | e
    · subst e; exact h1.mono fun n hn => List.mem_cons_of_mem _ hn
    · obtain rfl : v = .int .i64 0 := by simpa using e
      exact NBc.flat rfl
  · refine (made_new _ _ _ w).mono fun e w' he => ?_
    obtain ⟨g, rfl, hg, ⟨hT, _⟩, hb⟩ := he
    have hL : rL (upd ρ q (pl4 g 0 0 false)) [.slice (some ⟨A0, 0, none⟩) n 0, .int .i64 0] = rL ρ [.slice (some ⟨A0, 0, none⟩) n 0, .int .i64 0] := by
      refine rL_agr (upd_agr (al := al) ρ _ (hfr q _ List.mem_cons_self)) fun v hv => ?_
      rcases List.mem_cons.1 hv with e | e
      · subst e; exact fun ρ ρ' ha => hvs _ List.mem_cons_self ρ ρ' ha
      · obtain rfl : v = .int .i64 0 := by simpa using e
        exact NBc.flat rfl
    refine ⟨upd ρ q (pl4 g 0 0 false), ?_, Eff.newBelow hb ?_ fun k hk => ?_⟩
    · show _ = Ending.returned (.pointer (some ⟨(upd ρ q (pl4 g 0 0 false) q).b, (upd ρ q (pl4 g 0 0 false) q).o + 0, none⟩))
      rw [upd_same]; rfl
    · unfold BoxOK
      rw [upd_same]
      refine ⟨Nat.le_trans hB hg, rfl, rfl, ?_⟩
      rw [hL]; exact hT
    · have : g = k := hk
      omega
theorem ok_f12 {T A0 n : Nat} {l : List Int} {k : Nat} {m : Int} (hl : l.length = n) (hn : n ≤ 9223372036854775807) (hm : 1 ≤ m) (hm2 : m ≤ 9223372036854775807) (hTA : A0 ≠ T) (ho : o.op = .call c) (hc : c.callee = .value (.func 12)) (hargs : evs s c.args.toList = some [.pointer (some ⟨T, 0, none⟩), .int .i64 m]) (hk : k ≤ n)
    (hT : En.lk s.σ T = some (.row 124 [.slice (some ⟨A0, 0, none⟩) n 0, .int .i64 k])) (hA : En.lk s.σ A0 = some (.view 1 (l.map (Value.int .i64)))) :
    AOk Tryz.prog s o ⟨rq s c.args.toList, [(T, .row 124 [.slice (some ⟨A0, 0, none⟩) n 0, .int .i64 k]), (A0, .view 1 (l.map (Value.int .i64)))]⟩ ⟨.int .i64 (drawV l k m), [(T, .row 124 [.slice (some ⟨A0, 0, none⟩) n 0, .int .i64 (drawA l k)])], []⟩ := by
  refine .callG2 ent12 ho hc hargs (fun n b h => ?_) (fun n b h => ?_) (.inl rfl) (fun n b h => no_mem h) (fun al hv hσ => ⟨NB.flat rfl, fun T' b h v hv' => ?_, fun n b h => no_mem h⟩) fun B ρ w al hB hbx hvs hσ hfr hap => ?_
  · simp at h; rcases h with ⟨rfl, rfl⟩ | ⟨rfl, rfl⟩ <;> assumption
  · simp at h; obtain ⟨rfl, rfl⟩ := h; exact ⟨_, List.mem_cons_self, rfl⟩
  · simp at h; obtain ⟨rfl, rfl⟩ := h
    rcases List.mem_cons.1 hv' with e | e
    · subst e; exact (hσ T' _ List.mem_cons_self).2 _ List.mem_cons_self
    · obtain rfl : v = .int .i64 (drawA l k) := by simpa using e
      exact NBc.flat rfl
  · have hbT := hbx T _ List.mem_cons_self
    have hbA := hbx A0 _ (List.mem_cons_of_mem _ List.mem_cons_self)
    obtain ⟨b1, b2, b3, b4⟩ := hbT
    obtain ⟨A, c', h1, h2⟩ := box_SlK hbA (cells := l.map (Value.int .i64)) (fun _ _ h => h) (len := n) (k := 1) (by decide) (by simp [hl]) (allFC_ints l)
    have e1 : rL ρ [.slice (some ⟨A0, 0, none⟩) n 0, .int .i64 k] = [.slice A n c', .int .i64 k] := by
      show [rC ρ _, Value.int .i64 k] = _
      rw [h1]
    have e2 : rL ρ [.slice (some ⟨A0, 0, none⟩) n 0, .int .i64 (drawA l k)] = [.slice A n c', .int .i64 (drawA l k)] := by
      show [rC ρ _, Value.int .i64 (drawA l k)] = _
      rw [h1]
    rw [e1] at b4
    have hap1 := hap T A0 _ _ List.mem_cons_self (List.mem_cons_of_mem _ List.mem_cons_self) (Ne.symm hTA) trivial
    have hg := b4.lt
    have hS : Sl w w.heap.size A n (l.map (Value.int .i64)) := h2.sl
    have hne : 0 < n → ∀ b o, A = some ⟨b, o, none⟩ → b ≠ (ρ T).b := fun h0 b o e1 e2 => by
      have h3 : rC ρ (.slice (some ⟨A0, 0, none⟩) n 0) = .slice (bif (ρ A0).nil then (ρ A0).alt else some (rA ρ ⟨A0, 0, none⟩)) n (ρ A0).cap := rfl
      rw [h1] at h3
      injection h3 with h4
      rw [e1] at h4
      refine hap1 ⟨fun h5 => by rw [← hl] at h0; rw [List.map_eq_nil_iff] at h5; rw [h5] at h0; simp at h0, ?_⟩
      cases hn : (ρ A0).nil with
      | true =>
        have h5 := hbA.2.2 0 (.int .i64 (l[0]'(by omega))) (by rw [List.getElem?_map, List.getElem?_eq_getElem (by omega)]; rfl)
        rw [hn] at h5; cases h5.1
      | false =>
        rw [hn] at h4
        injection h4 with h4
        injection h4 with h4
        rw [← e2, h4]
    have hvs' : [Value.pointer (some ⟨T, 0, none⟩), .int .i64 m].map (rV ρ) = [.pointer (some ⟨(ρ T).b, 0, none⟩), .int .i64 m] := by
      show [Value.pointer (some ⟨(ρ T).b, (ρ T).o + 0, none⟩), Value.int .i64 m] = _
      rw [b2]
    rw [hvs']
    refine (tape_next3 A n c' (ρ T).b k l m w ⟨b4, hk⟩ hS hne hn hm hm2).mono fun e w' he => ?_
    obtain ⟨rfl, ⟨hT', _⟩, hK⟩ := he
    have hv : rV ρ (.int .i64 (drawV l k m)) = .int .i64 (drawV l k m) := rfl
    refine ⟨ρ, by rw [hv], hK.os, hK.tape, hK.output, hK.size, fun g hg hk => hK.block g hg (hk T _ List.mem_cons_self b3) (hk T _ List.mem_cons_self b3), fun _ _ => rfl, fun n b h => ?_, fun n b h => no_mem h, fun n b h => no_mem h, fun n b m b' h => no_mem h⟩
    simp at h; obtain ⟨rfl, rfl⟩ := h
    exact ⟨b1, b2, b3, by rw [e2]; exact hT'⟩
theorem ok_f11n {Y D n nd : Nat} {W v m I : Int} {cs : List Ch} {ds : List Int} {C : List Value} (hV : VCs W 64 I cs) (hW : W < 64) (hv1 : -4096 ≤ v) (hv2 : v ≤ 4096) (hi : I < 1099511627776) (hn : cs.length = n) (hds : ds.length = nd) (hC : C = ds.map (Value.int .i64)) (hnd : nd ≤ 1000000) (hm : sampM W 64 v cs ds = .need m)
    (ho : o.op = .call c) (hc : c.callee = .value (.func 11)) (hargs : evs s c.args.toList = some [synV W n Y, .int .i64 v, .slice (some ⟨D, 0, none⟩) nd 0]) (hY : En.lk s.σ Y = some (.deep (synD W cs))) (hD : En.lk s.σ D = some (.vec 2 1 C)) :
    AOk Tryz.prog s o ⟨rq s c.args.toList, [(Y, .deep (synD W cs)), (D, .vec 2 1 C)]⟩ ⟨.tuple #[.int .i64 m, .bool true], [], []⟩ := by
  subst hn hds hC
  refine .callV (fun B ρ w hB hbx => ?_) ent11 ho hc hargs (fun n b h => ?_) rfl
  · obtain ⟨A, c', h1, h2⟩ := ints_vec (hbx D _ (List.mem_cons_of_mem _ List.mem_cons_self))
    have h3 := syn_get (hbx Y _ List.mem_cons_self)
    have hvs' : [synV W cs.length Y, .int .i64 v, .slice (some ⟨D, 0, none⟩) ds.length 0].map (rV ρ) = [.agg (syn9 W 64 (plA (ρ Y)) cs.length (ρ Y).cap), .int .i64 v, .slice A ds.length c'] := by
      have e3 : rV ρ (.slice (some ⟨D, 0, none⟩) ds.length 0) = .slice A ds.length c' := h1
      simp only [List.map_cons, List.map_nil, e3, synV_r]; rfl
    rw [hvs']
    refine (synneeds_9 h3 hV hW hv1 hv2 hi h2 hnd (Nat.le_refl _) (by rw [hm]; intro h; cases h)).mono fun e w' he => ?_
    obtain ⟨h4, h5⟩ := he
    refine ⟨?_, h5⟩
    rcases h4 with ⟨cs', r, h6, _⟩ | ⟨m', h6, h7⟩
    · rw [hm] at h6; cases h6
    · rw [hm] at h6; cases h6; exact h7
  · simp at h; rcases h with ⟨rfl, rfl⟩ | ⟨rfl, rfl⟩ <;> assumption
theorem ok_f11k {Y D n nd : Nat} {W v I : Int} {cs cs' : List Ch} {ds : List Int} {C : List Value} (hV : VCs W 64 I cs) (hW : W < 64) (hv1 : -4096 ≤ v) (hv2 : v ≤ 4096) (hi : I < 1099511627776) (hn : cs.length = n) (hds : ds.length = nd) (hC : C = ds.map (Value.int .i64)) (hnd : nd ≤ 1000000) (hm : sampM W 64 v cs ds = .ok cs' [])
    (ho : o.op = .call c) (hc : c.callee = .value (.func 11)) (hargs : evs s c.args.toList = some [synV W n Y, .int .i64 v, .slice (some ⟨D, 0, none⟩) nd 0]) (hY : En.lk s.σ Y = some (.deep (synD W cs))) (hD : En.lk s.σ D = some (.vec 2 1 C)) :
    AOk Tryz.prog s o ⟨rq s c.args.toList, [(Y, .deep (synD W cs)), (D, .vec 2 1 C)]⟩ ⟨.tuple #[.int .i64 0, .bool false], [], []⟩ := by
  subst hn hds hC
  refine .callV (fun B ρ w hB hbx => ?_) ent11 ho hc hargs (fun n b h => ?_) rfl
  · obtain ⟨A, c', h1, h2⟩ := ints_vec (hbx D _ (List.mem_cons_of_mem _ List.mem_cons_self))
    have h3 := syn_get (hbx Y _ List.mem_cons_self)
    have hvs' : [synV W cs.length Y, .int .i64 v, .slice (some ⟨D, 0, none⟩) ds.length 0].map (rV ρ) = [.agg (syn9 W 64 (plA (ρ Y)) cs.length (ρ Y).cap), .int .i64 v, .slice A ds.length c'] := by
      have e3 : rV ρ (.slice (some ⟨D, 0, none⟩) ds.length 0) = .slice A ds.length c' := h1
      simp only [List.map_cons, List.map_nil, e3, synV_r]; rfl
    rw [hvs']
    refine (synneeds_9 h3 hV hW hv1 hv2 hi h2 hnd (Nat.le_refl _) (by rw [hm]; intro h; cases h)).mono fun e w' he => ?_
    obtain ⟨h4, h5⟩ := he
    refine ⟨?_, h5⟩
    rcases h4 with ⟨cs', r, h6, h7⟩ | ⟨m', h6, h7⟩
    · exact h7
    · rw [hm] at h6; cases h6
  · simp at h; rcases h with ⟨rfl, rfl⟩ | ⟨rfl, rfl⟩ <;> assumption
theorem ok_f13 (q : Nat) {Y D n nd : Nat} {W v I : Int} {cs cs' : List Ch} {ds : List Int} {C : List Value} (hV : VCs W 64 I cs) (hW : W < 64) (hv1 : -4096 ≤ v) (hv2 : v ≤ 4096) (hi : I < 1099511627776) (hn : cs.length = n) (hds : ds.length = nd) (hC : C = ds.map (Value.int .i64)) (hnd : nd ≤ 1000000) (hm : sampM W 64 v cs ds = .ok cs' [])
    (ho : o.op = .call c) (hc : c.callee = .value (.func 13)) (hargs : evs s c.args.toList = some [synV W n Y, .int .i64 v, .slice (some ⟨D, 0, none⟩) nd 0]) (hY : En.lk s.σ Y = some (.deep (synD W cs))) (hD : En.lk s.σ D = some (.vec 2 1 C)) (hq : memB q s.al = false) :
    AOk Tryz.prog s o ⟨rq s c.args.toList, [(Y, .deep (synD W cs)), (D, .vec 2 1 C)]⟩ ⟨.tuple #[synV W n q, .int .i64 0], [], [(q, .deep (synD W cs'))]⟩ := by
  subst hn hds hC
  refine .callG ent13 ho hc hargs (fun n b h => ?_) (fun n b h => no_mem h) (.inr fun n b h => no_mem h) (fun n b h => ?_) (fun al _ _ => ⟨(nbV_NB (al := [q]) (by simp [nbV, allN1, nb1, nbC, synV, syn9, allNC, memB])).mono (fun n hn => by simp at hn ⊢; exact .inl hn), fun n b h => no_mem h, fun n b h v hv => ?_⟩) fun B ρ w al hB hbx _ _ _ => ?_
  · simp at h; rcases h with ⟨rfl, rfl⟩ | ⟨rfl, rfl⟩ <;> assumption
  · simp at h; rw [h.1]; intro hm; rw [memB_iff.2 hm] at hq; cases hq
  · simp at h; obtain ⟨rfl, rfl⟩ := h; cases hv
  · obtain ⟨A, c', h1, h2⟩ := ints_vec (hbx D _ (List.mem_cons_of_mem _ List.mem_cons_self))
    have h3 := syn_get (hbx Y _ List.mem_cons_self)
    have hvs' : [synV W cs.length Y, .int .i64 v, .slice (some ⟨D, 0, none⟩) ds.length 0].map (rV ρ) = [.agg (syn9 W 64 (plA (ρ Y)) cs.length (ρ Y).cap), .int .i64 v, .slice A ds.length c'] := by
      have e3 : rV ρ (.slice (some ⟨D, 0, none⟩) ds.length 0) = .slice A ds.length c' := h1
      simp only [List.map_cons, List.map_nil, e3, synV_r]; rfl
    rw [hvs']
    refine (synadd_9 h3 hV hW hv1 hv2 hi h2 hnd (Nat.le_refl _) hm).mono fun e w' he => ?_
    obtain ⟨⟨v', rfl, hO⟩, hb⟩ := he
    obtain ⟨p, rfl, hbox, hfp⟩ := syn_box (B := B) (q := q) (ρ := ρ) hO
    refine ⟨upd ρ q p, ?_, Eff.newBelow hb hbox hfp⟩
    show _ = Ending.returned (.tuple #[.agg (syn9 W 64 (plA (upd ρ q p q)) cs.length (upd ρ q p q).cap), .int .i64 0])
    rw [upd_same, sampM_len _ _ _ _ hm]
theorem ok_f14 (q : Nat) {Y n : Nat} {W I qa qb : Int} {cs : List Ch} {C : List Value} (hV : VCs W 64 I cs) (hI : 0 < I) (hn : cs.length = n) (hC : C = (cs.map headV).map (Value.int .i64))
    (ho : o.op = .call c) (hc : c.callee = .value (.func 14)) (hargs : evs s c.args.toList = some [synV W n Y, .agg #[.int .i64 10, .int .i64 qa, .int .i64 qb]]) (hY : En.lk s.σ Y = some (.deep (synD W cs))) (hq : memB q s.al = false) :
    AOk Tryz.prog s o ⟨rq s c.args.toList, [(Y, .deep (synD W cs))]⟩ ⟨.tuple #[.agg #[.int .i64 0, .int .i64 0, .int .i64 0, .int .i64 0, .int .i64 0, .int .i64 0, .slice (some ⟨q, 0, none⟩) n 0, .int .u64 0, .int .u64 0, .int .u64 0, .int .u64 0], .int .i64 0], [], [(q, .vec 2 1 C)]⟩ := by
  subst hn hC
  refine AOk.callO (fun s => .tuple #[.agg #[.int .i64 0, .int .i64 0, .int .i64 0, .int .i64 0, .int .i64 0, .int .i64 0, s, .int .u64 0, .int .u64 0, .int .u64 0, .int .u64 0], .int .i64 0]) q cs.length 1 2 _ (fun B ρ w hB hbx => ?_) ent14 ho hc hargs (fun n b h => ?_) hq (fun _ => rfl) (by simp [nbV, allN1, nb1, nbC, allNC, memB]) (allFC_ints _)
  · have h3 := syn_get (hbx Y _ List.mem_cons_self)
    have hvs' : [synV W cs.length Y, .agg #[.int .i64 10, .int .i64 qa, .int .i64 qb]].map (rV ρ) = [.agg (syn9 W 64 (plA (ρ Y)) cs.length (ρ Y).cap), .agg #[.int .i64 10, .int .i64 qa, .int .i64 qb]] := rfl
    rw [hvs']
    refine (synask_9 h3 hV hI (Nat.le_refl _)).mono fun e w' he => ?_
    obtain ⟨A, k, rfl, hO, hb⟩ := he
    rw [List.length_map] at hO ⊢
    exact ⟨A, k, rfl, hO, hb⟩
  · simp at h; obtain ⟨rfl, rfl⟩ := h; exact hY
theorem info2w : (Tryz.prog.info? 2).map (fun i => (i.size, i.bytes, i.zero.map (·.cells.size))) = some (1, 8, some 1) := by kernel_rfl
/-- one value more at the end of a slice of the call's own -/
theorem ok_app (q : Nat) {D Y1 nd c1 c2 : Nat} {C : List Value} {u : Int} {x y : Operand} (hl : C.length = nd) (hlt : nd < 1000000) (ho : o.op = .call c) (hcal : c.callee = .builtin .append) (hargs : c.args = #[x, y]) (hty : c.argTypes = #[22, 22])
    (hx : ev s x = some (.slice (some ⟨D, 0, none⟩) nd c1)) (hy : ev s y = some (.slice (some ⟨Y1, 0, none⟩) 1 c2)) (hD : En.lk s.σ D = some (.vec 2 1 C)) (hY : En.lk s.σ Y1 = some (.vec 2 1 [.int .i64 u])) (hq : memB q s.al = false) :
    AOk Tryz.prog s o ⟨rq s [x, y], [(D, .vec 2 1 C), (Y1, .vec 2 1 [.int .i64 u])]⟩ ⟨.slice (some ⟨q, 0, none⟩) (nd + 1) 0, [(D, .gone)], [(q, .vec 2 1 (C ++ [.int .i64 u]))]⟩ := by
  obtain ⟨ie, z, hie, h1, h2, h3, h4⟩ : ∃ ie z, Tryz.prog.info? 2 = some ie ∧ ie.size = 1 ∧ ie.bytes = 8 ∧ ie.zero = some z ∧ z.cells.size = 1 := by
    have h := info2w
    cases hi : Tryz.prog.info? 2 with
    | none => rw [hi] at h; cases h
    | some ie =>
      rw [hi] at h
      cases hz : ie.zero with
      | none => simp [hz] at h
      | some z =>
        simp [hz] at h
        exact ⟨ie, z, rfl, h.1, h.2.1, hz, h.2.2⟩
  have hC : C.take (nd * 1) = C := List.take_of_length_le (by omega)
  refine ⟨fun B => ?_, ⟨fun t v h => rq_in h, fun n b h => ?_⟩, fun n b h => ?_, .inr fun n b h => ?_, fun n b h => ?_⟩
  · have := Does.append (P := Tryz.prog) (B := B) (s := s) (o := o) (c := c) (t := 22) (e := 2) (x := x) (y := y) (es := 1) (bytes := 8) (len := nd) (m := 1) (q := q) (xs := C.take (nd * 1)) (news := [.int .i64 u]) (up := [(D, .gone)]) (σ := [(D, .vec 2 1 C), (Y1, .vec 2 1 [.int .i64 u])]) ho hcal hargs hty Tryz.underlying22 hie h1 h2 h3 h4 (by decide) (.vec hx List.mem_cons_self (by omega)) (.box hy (List.mem_cons_of_mem _ List.mem_cons_self) (fun j v h => by rw [Nat.zero_add]; exact h) rfl) (fun u hu => by obtain rfl := List.mem_singleton.1 hu; rfl) (by unfold maxLen; omega) (by omega)
    rw [hC] at this
    exact this
  · simp at h; rcases h with ⟨rfl, rfl⟩ | ⟨rfl, rfl⟩ <;> assumption
  · simp at h; obtain ⟨rfl, rfl⟩ := h; exact ⟨_, List.mem_cons_self, rfl⟩
  · simp at h; exact h.2
  · simp at h; rw [h.1]; intro hm; rw [memB_iff.2 hm] at hq; cases hq
end
end Go.Proofs.YtbageimconenlaaGreat
