/- The law TopSpreadTwoWays: its walk. -/
import Derived.Test.YtbageimconenlaaGreatNY
import Derived.Test.YtbageimconenlaaGreatGB
namespace Go.Proofs.YtbageimconenlaaGreat
open Go.RowKit En
set_option linter.unusedVariables false
namespace En
section
variable {P : Program}
/-- a slice in, one of its own out, and another one of which nothing is known -/
theorem AOk.callOG {s : St} {o : Oper} {c : Call} {g : FuncId} (G : Value → List Value) (n len k : Nat) (cells : List Value) {b : Box} (F : Value → Value → Value) (q n' k' : Nat) (e' : TypeId) (cells' : List Value) (q2 n2 : Nat)
    (C : ∀ (w : World) (A : Option Addr) (c' : Nat), SL w A len c' k cells → Calls P g (G (.slice A len c')).toArray w (fun e w' => ∃ A' c'' A2 c2, e = .returned (F (.slice A' n' c'') (.slice A2 n2 c2)) ∧ OwnK w' w.heap.size e' k' (.slice A' n' c'') n' cells' ∧ Below w.heap.size w w'))
    (hent : Enters P g) (ho : o.op = .call c) (hc : c.callee = .value (.func g)) (hargs : evs s c.args.toList = some (G (.slice (some ⟨n, 0, none⟩) len 0))) (hG : ∀ ρ, (G (.slice (some ⟨n, 0, none⟩) len 0)).map (rV ρ) = G (rC ρ (.slice (some ⟨n, 0, none⟩) len 0)))
    (hb : lk s.σ n = some b) (hbc : ∀ (j : Nat) (v : Value), cells[j]? = some v → b.cells[j]? = some v) (hk : 0 < k) (hl : cells.length = len * k) (hf : allFC cells = true) (hbk : kBox k b = true) (hq : memB q s.al = false) (hq2 : memB q2 s.al = false) (hne : q ≠ q2)
    (hF : ∀ ρ, rV ρ (F (.slice (some ⟨q, 0, none⟩) n' 0) (.slice (some ⟨q2, 0, none⟩) n2 0)) = F (rC ρ (.slice (some ⟨q, 0, none⟩) n' 0)) (rC ρ (.slice (some ⟨q2, 0, none⟩) n2 0))) (hN : nbV [q, q2] (F (.slice (some ⟨q, 0, none⟩) n' 0) (.slice (some ⟨q2, 0, none⟩) n2 0)) = true) (hf' : allFC cells' = true) :
    AOk P s o ⟨rq s c.args.toList, [(n, b)]⟩ ⟨F (.slice (some ⟨q, 0, none⟩) n' 0) (.slice (some ⟨q2, 0, none⟩) n2 0), [], [(q, .vec e' k' cells'), (q2, .gone)]⟩ := by
  have hqn : q ∉ s.al := fun hm => by rw [memB_iff.2 hm] at hq; cases hq
  have hqn2 : q2 ∉ s.al := fun hm => by rw [memB_iff.2 hm] at hq2; cases hq2
  refine .callG hent ho hc hargs (fun m b' h => ?_) (fun m b' h => no_mem h) (.inr fun m b' h => no_mem h) (fun m b' h => ?_) (fun al _ _ => ⟨(nbV_NB hN).mono (fun m hm => ?_), fun m b' h => no_mem h, fun m b' h v hv => ?_⟩) fun B ρ w al hB hbx _ _ _ => ?_
  · simp at h; obtain ⟨rfl, rfl⟩ := h; exact hb
  · simp at h; rcases h with ⟨rfl, _⟩ | ⟨rfl, _⟩ <;> assumption
  · simp at hm ⊢; rcases hm with rfl | rfl <;> simp
  · simp at h
    rcases h with ⟨rfl, rfl⟩ | ⟨rfl, rfl⟩
    · exact NBc.flat (allFC_spec hf' v hv)
    · cases hv
  · obtain ⟨A, c', h1, h2⟩ := box_SL (hbx n b List.mem_cons_self) hbc hk hl hf hbk
    rw [hG, h1]
    refine (C w A c' h2).mono fun e w' he => ?_
    obtain ⟨A', c'', A2, c2, rfl, hO, hb'⟩ := he
    obtain ⟨pl, g1, g2, g3⟩ := own_vec (B := B) (q := q) hO hB hf' ρ
    have e1 : upd (upd ρ q pl) q2 (plOf A2 c2) q = pl := by rw [upd_other _ _ hne, upd_same]
    have e2 : upd (upd ρ q pl) q2 (plOf A2 c2) q2 = plOf A2 c2 := upd_same _ _ _
    have hbox : BoxOK B (upd (upd ρ q pl) q2 (plOf A2 c2)) w' q (.vec e' k' cells') := by
      refine g2.keep (by rw [e1, upd_same]) (fun v hv => ?_) (Nat.le_refl _) fun _ _ => rfl
      rw [rC_flat _ (allFC_spec hf' v hv), rC_flat _ (allFC_spec hf' v hv)]
    refine ⟨upd (upd ρ q pl) q2 (plOf A2 c2), ?_, hb'.os, hb'.tape, hb'.output, hb'.size, fun k hk _ => hb'.block k hk, fun m hm => ?_, fun m b' h => no_mem h, fun m b' h => ?_, fun m b' h gh hh => ?_, fun m b1 m2 b2 h h2 hne2 hw hh => ?_⟩
    · rw [hF, plOf_slice e2]
      have : rC (upd (upd ρ q pl) q2 (plOf A2 c2)) (.slice (some ⟨q, 0, none⟩) n' 0) = rC (upd ρ q pl) (.slice (some ⟨q, 0, none⟩) n' 0) := by
        simp only [rC, rA, e1, upd_same]
      rw [this, g1]
    · have m1 : m ≠ q := by rintro rfl; exact hm _ List.mem_cons_self
      have m2 : m ≠ q2 := by rintro rfl; exact hm _ (List.mem_cons_of_mem _ List.mem_cons_self)
      rw [upd_other _ _ m2, upd_other _ _ m1]
    · simp at h
      rcases h with ⟨rfl, rfl⟩ | ⟨rfl, rfl⟩
      · exact hbox
      · trivial
    · simp at h
      rcases h with ⟨rfl, rfl⟩ | ⟨rfl, rfl⟩
      · rw [e1] at hh
        have h9 := g3 hh.1
        rw [hh.2] at h9
        exact .inl h9
      · exact hh.elim
    · simp at h h2
      rcases h with ⟨rfl, rfl⟩ | ⟨rfl, rfl⟩
      · rcases h2 with ⟨rfl, rfl⟩ | ⟨rfl, rfl⟩
        · exact hne2 rfl
        · exact hh
      · exact hw
end
end En
theorem ent16 : Enters Tryz.prog 16 := enters Tryz.func16 (by kernel_rfl) (by kernel_rfl)
theorem ent17 : Enters Tryz.prog 17 := enters Tryz.func17 (by kernel_rfl) (by kernel_rfl)
theorem ent18 : Enters Tryz.prog 18 := enters Tryz.func18 (by kernel_rfl) (by kernel_rfl)
theorem ent19 : Enters Tryz.prog 19 := enters Tryz.func19 (by kernel_rfl) (by kernel_rfl)
set_option maxRecDepth 100000 in
set_option maxHeartbeats 2000000 in
theorem f4_walk (raw L lv : List It) (m n : Nat) (a1 a2 w0 k nw : Int) (lm : List Mk) (n1 d1 n2 d2 n3 d3 x1 y1 : Nat) (hm : raw.length = m) (hl : L.length = n) (hn : n ≤ 80) (hw : 1 + a1 % 20 = w0) (hk : 1 + a2 % 4 = k) (hnw : nw = tk L n)
    (hItems : ∀ (w : World) (A : Option Addr) (c : Nat), SL w A m c 2 (itL raw) → Calls Tryz.prog 16 #[.slice A m c, .int .i64 w0, .int .i64 80] w (fun e w' => ∃ A' c', e = .returned (.slice A' n c') ∧ OwnK w' w.heap.size 88 2 (.slice A' n c') n (itL L) ∧ Below w.heap.size w w'))
    (hRun : ∀ (w : World) (A : Option Addr) (c : Nat), SL w A n c 2 (itL L) → Calls Tryz.prog 17 #[.agg #[.int .i64 5, .int .i64 0, .int .i64 w0, .int .i64 k, .int .i64 1000, .int .i64 0, .int .i64 0, .int .i64 0], .slice A n c] w (fun e w' => ∃ A' c' A2 c2, e = .returned (.tuple #[.agg (List.toArray (.int .i64 5 :: .int .i64 0 :: .int .i64 w0 :: .int .i64 k :: .int .i64 1000 :: .int .i64 0 :: .int .i64 0 :: .int .i64 0 :: .int .i64 0 :: .int .i64 0 :: .int .i64 0 :: .slice none 0 0 :: .int .i64 0 :: .int .i64 0 :: .int .i64 0 :: .int .i64 0 :: .slice none 0 0 :: .int .i64 0 :: .int .i64 0 :: .int .i64 0 :: .int .i64 0 :: .int .i64 0 :: .slice none 0 0 :: .int .i64 0 :: .int .i64 0 :: .int .i64 0 :: .int .i64 0 :: .int .i64 0 :: .int .i64 0 :: .slice none 0 0 :: .int .i64 w0 :: .int .i64 k :: .int .i64 1000 :: .int .i64 nw :: .int .i64 (n : Nat) :: .slice A' lm.length c' :: .int .i64 0 :: .int .i64 0 :: .int .i64 0 :: .slice none 0 0 :: .int .i64 0 :: .slice none 0 0 :: .bool false :: .int .i64 0 :: .int .i64 0 :: .int .i64 0 :: .slice none 0 0 :: .slice none 0 0 :: .int .i64 0 :: .int .i64 0 :: .int .i64 0 :: .slice none 0 0 :: .int .i64 0 :: .int .i64 0 :: .int .i64 0 :: .int .i64 0 :: .slice none 0 0 :: [])), .slice A2 n c2, .bool true]) ∧ OwnK w' w.heap.size 203 7 (.slice A' lm.length c') lm.length (mkL lm) ∧ Below w.heap.size w w'))
    (hLive : ∀ (w : World) (A : Option Addr) (c : Nat), SL w A n c 2 (itL L) → Calls Tryz.prog 18 #[.slice A n c, .int .i64 nw, .int .i64 w0] w (fun e w' => ∃ A' c', e = .returned (.slice A' lv.length c') ∧ OwnK w' w.heap.size 88 2 (.slice A' lv.length c') lv.length (itL lv) ∧ Below w.heap.size w w'))
    (hSp : ∀ (w : World) (A : Option Addr) (c : Nat), SL w A lv.length c 2 (itL lv) → Calls Tryz.prog 19 #[.slice A lv.length c] w (fun e w' => e = .returned (.tuple #[.agg #[.int .i64 ((x1 : Nat)), .int .i64 ((y1 : Nat))], .bool true]) ∧ Below w.heap.size w w'))
    (hRf : ∀ (w : World) (A : Option Addr) (c : Nat), SL w A lv.length c 2 (itL lv) → Calls Tryz.prog 20 #[.slice A lv.length c] w (fun e w' => e = .returned (.agg #[.int .i64 ((x1 : Nat)), .int .i64 ((y1 : Nat))]) ∧ Below w.heap.size w w'))
    (hAsk : ∀ (w : World) (A : Option Addr) (c : Nat), SL w A lm.length c 7 (mkL lm) → Calls Tryz.prog 14 #[.agg (List.toArray (.int .i64 5 :: .int .i64 0 :: .int .i64 w0 :: .int .i64 k :: .int .i64 1000 :: .int .i64 0 :: .int .i64 0 :: .int .i64 0 :: .int .i64 0 :: .int .i64 0 :: .int .i64 0 :: .slice none 0 0 :: .int .i64 0 :: .int .i64 0 :: .int .i64 0 :: .int .i64 0 :: .slice none 0 0 :: .int .i64 0 :: .int .i64 0 :: .int .i64 0 :: .int .i64 0 :: .int .i64 0 :: .slice none 0 0 :: .int .i64 0 :: .int .i64 0 :: .int .i64 0 :: .int .i64 0 :: .int .i64 0 :: .int .i64 0 :: .slice none 0 0 :: .int .i64 w0 :: .int .i64 k :: .int .i64 1000 :: .int .i64 nw :: .int .i64 (n : Nat) :: .slice A lm.length c :: .int .i64 0 :: .int .i64 0 :: .int .i64 0 :: .slice none 0 0 :: .int .i64 0 :: .slice none 0 0 :: .bool false :: .int .i64 0 :: .int .i64 0 :: .int .i64 0 :: .slice none 0 0 :: .slice none 0 0 :: .int .i64 0 :: .int .i64 0 :: .int .i64 0 :: .slice none 0 0 :: .int .i64 0 :: .int .i64 0 :: .int .i64 0 :: .int .i64 0 :: .slice none 0 0 :: [])), .agg #[.int .i64 5, .int .i64 0, .int .i64 0]] w (fun e w' => e = .returned (.tuple #[.agg #[.int .i64 ((n1 : Nat)), .int .i64 ((d1 : Nat)), .int .i64 ((n2 : Nat)), .int .i64 ((d2 : Nat)), .int .i64 ((n3 : Nat)), .int .i64 ((d3 : Nat)), .slice none 0 0, .int .u64 0, .int .u64 0, .int .u64 0, .int .u64 0], .int .i64 0]) ∧ Below w.heap.size w w'))
    (hHold : ∀ (w : World), Calls Tryz.prog 21 #[.agg #[.int .i64 ((n1 : Nat)), .int .i64 ((d1 : Nat)), .int .i64 ((n2 : Nat)), .int .i64 ((d2 : Nat)), .int .i64 ((n3 : Nat)), .int .i64 ((d3 : Nat))], .agg #[.int .i64 ((x1 : Nat)), .int .i64 ((y1 : Nat))]] w (fun e w' => e = .returned (.bool true) ∧ Below w.heap.size w w')) (w : World) (A : Option Addr) (c : Nat) (h : SL w A m c 2 (itL raw)) :
    Calls Tryz.prog 4 #[.slice A m c, .int .i64 a1, .int .i64 a2] w (fun e w' => e = .returned (.bool true) ∧ Below w.heap.size w w') := by
  have g1 := Int.emod_nonneg a1 (b := 20) (by decide)
  have g2 := Int.emod_lt_of_pos a1 (b := 20) (by decide)
  have g3 := Int.emod_nonneg a2 (b := 4) (by decide)
  have g4 := Int.emod_lt_of_pos a2 (b := 4) (by decide)
  have e1 : IntKind.i64.wrap (1 + a1 % 20) = w0 := by rw [IntWalk.i64_in _ (by omega)]; exact hw
  have e2 : IntKind.i64.wrap (1 + a2 % 4) = k := by rw [IntWalk.i64_in _ (by omega)]; exact hk
  have q1 : ((x1 : Int) == (x1 : Int) && (y1 : Int) == (y1 : Int)) = true := by simp
  refine fun_sliceF tblOK mixedP Tryz.func4 rfl (fun s => [s, .int .i64 a1, .int .i64 a2]) m 2 (itL raw) h (by decide) (allFC_it _) [.slice (some ⟨0, 0, none⟩) m 0, .int .i64 a1, .int .i64 a2] rfl (fun _ => rfl) 83 [(0, .slice (some ⟨0, 0, none⟩) m 0), (1, .int .i64 a1), (2, .int .i64 a2)] rfl rfl (by kernel_rfl) rfl rfl _ rfl ?_
  by_cases hn0 : n = 0
  · have hd : decide ((n : Int) > 0) = false := by simp only [decide_eq_false_iff_not]; omega
    obtain rfl : nw = 0 := by rw [hnw, hn0]; rfl
    repeat' (first
      | rw [e1]
      | rw [e2]
      | rw [hd]
      | rw [q1]
      | refine AR.auto rfl ?_
      | refine AR.man (okt_f6 (by decide) (by decide) rfl rfl rfl) rfl rfl rfl ?_
      | refine AR.man (okt_f8 (by decide) (by decide) rfl rfl rfl) rfl rfl rfl ?_
      | refine AR.man (AOk.callOS (fun s => [s, .int .i64 w0, .int .i64 80]) 0 m 2 (itL raw) (fun s => s) 90 n 2 88 (itL L) (fun w A c h => hItems w A c h) ent16 rfl rfl rfl (fun _ => rfl) rfl (fun _ _ h => h) (by decide) (by rw [itL_len, hm]) (allFC_it _) rfl rfl (fun _ => rfl) rfl (allFC_it _)) rfl rfl rfl ?_
      | refine AR.man (AOk.callOG (fun s => [.agg #[.int .i64 5, .int .i64 0, .int .i64 w0, .int .i64 k, .int .i64 1000, .int .i64 0, .int .i64 0, .int .i64 0], s]) 90 n 2 (itL L) (fun s s2 => .tuple #[.agg (List.toArray (.int .i64 5 :: .int .i64 0 :: .int .i64 w0 :: .int .i64 k :: .int .i64 1000 :: .int .i64 0 :: .int .i64 0 :: .int .i64 0 :: .int .i64 0 :: .int .i64 0 :: .int .i64 0 :: .slice none 0 0 :: .int .i64 0 :: .int .i64 0 :: .int .i64 0 :: .int .i64 0 :: .slice none 0 0 :: .int .i64 0 :: .int .i64 0 :: .int .i64 0 :: .int .i64 0 :: .int .i64 0 :: .slice none 0 0 :: .int .i64 0 :: .int .i64 0 :: .int .i64 0 :: .int .i64 0 :: .int .i64 0 :: .int .i64 0 :: .slice none 0 0 :: .int .i64 w0 :: .int .i64 k :: .int .i64 1000 :: .int .i64 0 :: .int .i64 (n : Nat) :: s :: .int .i64 0 :: .int .i64 0 :: .int .i64 0 :: .slice none 0 0 :: .int .i64 0 :: .slice none 0 0 :: .bool false :: .int .i64 0 :: .int .i64 0 :: .int .i64 0 :: .slice none 0 0 :: .slice none 0 0 :: .int .i64 0 :: .int .i64 0 :: .int .i64 0 :: .slice none 0 0 :: .int .i64 0 :: .int .i64 0 :: .int .i64 0 :: .int .i64 0 :: .slice none 0 0 :: [])), s2, .bool true]) 91 lm.length 7 203 (mkL lm) 92 n (fun w A c h => hRun w A c h) ent17 rfl rfl rfl (fun _ => rfl) rfl (fun _ _ h => h) (by decide) (by rw [itL_len, hl]) (allFC_it _) rfl rfl rfl (by decide) (fun _ => rfl) rfl (allFC_mk _)) rfl rfl rfl ?_
      | refine AR.man (AOk.callOS (fun s => [s, .int .i64 0, .int .i64 w0]) 90 n 2 (itL L) (fun s => s) 93 lv.length 2 88 (itL lv) (fun w A c h => hLive w A c h) ent18 rfl rfl rfl (fun _ => rfl) rfl (fun _ _ h => h) (by decide) (by rw [itL_len, hl]) (allFC_it _) rfl rfl (fun _ => rfl) rfl (allFC_it _)) rfl rfl rfl ?_
      | refine AR.man (AOk.callS (fun s => [s]) 93 lv.length 2 (itL lv) (fun w A c h => hSp w A c h) ent19 rfl rfl rfl (fun _ => rfl) rfl (fun _ _ h => h) (by decide) (itL_len _) (allFC_it _) rfl rfl) rfl rfl rfl ?_
      | refine AR.man (AOk.callS (fun s => [.agg (List.toArray (.int .i64 5 :: .int .i64 0 :: .int .i64 w0 :: .int .i64 k :: .int .i64 1000 :: .int .i64 0 :: .int .i64 0 :: .int .i64 0 :: .int .i64 0 :: .int .i64 0 :: .int .i64 0 :: .slice none 0 0 :: .int .i64 0 :: .int .i64 0 :: .int .i64 0 :: .int .i64 0 :: .slice none 0 0 :: .int .i64 0 :: .int .i64 0 :: .int .i64 0 :: .int .i64 0 :: .int .i64 0 :: .slice none 0 0 :: .int .i64 0 :: .int .i64 0 :: .int .i64 0 :: .int .i64 0 :: .int .i64 0 :: .int .i64 0 :: .slice none 0 0 :: .int .i64 w0 :: .int .i64 k :: .int .i64 1000 :: .int .i64 0 :: .int .i64 (n : Nat) :: s :: .int .i64 0 :: .int .i64 0 :: .int .i64 0 :: .slice none 0 0 :: .int .i64 0 :: .slice none 0 0 :: .bool false :: .int .i64 0 :: .int .i64 0 :: .int .i64 0 :: .slice none 0 0 :: .slice none 0 0 :: .int .i64 0 :: .int .i64 0 :: .int .i64 0 :: .slice none 0 0 :: .int .i64 0 :: .int .i64 0 :: .int .i64 0 :: .int .i64 0 :: .slice none 0 0 :: [])), .agg #[.int .i64 5, .int .i64 0, .int .i64 0]]) 91 lm.length 7 (mkL lm) (fun w A c h => hAsk w A c h) ent14 rfl rfl rfl (fun _ => rfl) rfl (fun _ _ h => h) (by decide) (mkL_len _) (allFC_mk _) rfl rfl) rfl rfl rfl ?_
      | refine AR.man (AOk.callS (fun s => [s]) 93 lv.length 2 (itL lv) (fun w A c h => hRf w A c h) ent20 rfl rfl rfl (fun _ => rfl) rfl (fun _ _ h => h) (by decide) (itL_len _) (allFC_it _) rfl rfl) rfl rfl rfl ?_
      | refine AR.man (AOk.bin (aeql68 _ _ _ _) rfl rfl rfl rfl rfl rfl) rfl rfl rfl ?_
      | refine AR.man (AOk.call (fun w => hHold w) ent21 rfl rfl rfl rfl rfl) rfl rfl rfl ?_
      | refine AR.man (AOk.call (fun w => g_awake w) gent15 rfl rfl rfl rfl rfl) rfl rfl rfl ?_
      | refine AR.nil ?_
      | refine KF.mk ?_
      | refine KT.mk (by kernel_rfl) ?_
      | refine SQ.normal ?_
      | refine AC.seq ?_
      | refine AC.regF ?_
      | refine AC.regT ?_
      | refine AC.condT rfl ?_
      | refine AC.condF rfl ?_
      | refine AC.block ?_
      | refine BQ.normal ?_
      | refine BQ.ret ?_
      | refine BQ.here ?_
      | refine BQ.there rfl ?_
      | refine SQ.ret ?_
      | refine SQ.exit ?_
      | refine AC.ret ?_
      | refine AC.exit ?_
      | refine AC.skip ?_
      | (refine AR.split rfl (fun h => ?_) (fun h => ?_) <;> rw [h])
      | (refine AC.cond rfl (fun h => ?_) (fun h => ?_) <;> rw [h])
      | refine FQ.ret rfl rfl ?_
      | refine FQ.normal rfl rfl ?_)
    all_goals rfl
  · have hd : decide ((n : Int) > 0) = true := by simp only [decide_eq_true_eq]; omega
    obtain ⟨x, hx⟩ : ∃ x, L[n - 1]? = some x := ⟨L[n - 1]'(by omega), List.getElem?_eq_getElem (by omega)⟩
    obtain rfl : nw = x.t := by rw [hnw]; unfold tk tAt; rw [if_neg hn0, hx]
    have w5 : IntKind.i64.wrap ((n : Int) - 1) = ((n - 1 : Nat) : Int) := by rw [IntWalk.i64_in _ (by omega)]; omega
    repeat' (first
      | rw [e1]
      | rw [e2]
      | rw [hd]
      | rw [w5]
      | rw [q1]
      | refine AR.auto rfl ?_
      | refine AR.man (okt_f6 (by decide) (by decide) rfl rfl rfl) rfl rfl rfl ?_
      | refine AR.man (okt_f8 (by decide) (by decide) rfl rfl rfl) rfl rfl rfl ?_
      | refine AR.man (AOk.callOS (fun s => [s, .int .i64 w0, .int .i64 80]) 0 m 2 (itL raw) (fun s => s) 90 n 2 88 (itL L) (fun w A c h => hItems w A c h) ent16 rfl rfl rfl (fun _ => rfl) rfl (fun _ _ h => h) (by decide) (by rw [itL_len, hm]) (allFC_it _) rfl rfl (fun _ => rfl) rfl (allFC_it _)) rfl rfl rfl ?_
      | refine AR.man (AOk.callOG (fun s => [.agg #[.int .i64 5, .int .i64 0, .int .i64 w0, .int .i64 k, .int .i64 1000, .int .i64 0, .int .i64 0, .int .i64 0], s]) 90 n 2 (itL L) (fun s s2 => .tuple #[.agg (List.toArray (.int .i64 5 :: .int .i64 0 :: .int .i64 w0 :: .int .i64 k :: .int .i64 1000 :: .int .i64 0 :: .int .i64 0 :: .int .i64 0 :: .int .i64 0 :: .int .i64 0 :: .int .i64 0 :: .slice none 0 0 :: .int .i64 0 :: .int .i64 0 :: .int .i64 0 :: .int .i64 0 :: .slice none 0 0 :: .int .i64 0 :: .int .i64 0 :: .int .i64 0 :: .int .i64 0 :: .int .i64 0 :: .slice none 0 0 :: .int .i64 0 :: .int .i64 0 :: .int .i64 0 :: .int .i64 0 :: .int .i64 0 :: .int .i64 0 :: .slice none 0 0 :: .int .i64 w0 :: .int .i64 k :: .int .i64 1000 :: .int .i64 x.t :: .int .i64 (n : Nat) :: s :: .int .i64 0 :: .int .i64 0 :: .int .i64 0 :: .slice none 0 0 :: .int .i64 0 :: .slice none 0 0 :: .bool false :: .int .i64 0 :: .int .i64 0 :: .int .i64 0 :: .slice none 0 0 :: .slice none 0 0 :: .int .i64 0 :: .int .i64 0 :: .int .i64 0 :: .slice none 0 0 :: .int .i64 0 :: .int .i64 0 :: .int .i64 0 :: .int .i64 0 :: .slice none 0 0 :: [])), s2, .bool true]) 91 lm.length 7 203 (mkL lm) 92 n (fun w A c h => hRun w A c h) ent17 rfl rfl rfl (fun _ => rfl) rfl (fun _ _ h => h) (by decide) (by rw [itL_len, hl]) (allFC_it _) rfl rfl rfl (by decide) (fun _ => rfl) rfl (allFC_mk _)) rfl rfl rfl ?_
      | refine AR.man (oki_idx (A0 := 90) (i := n - 1) rfl rfl rfl rfl (nonE_itr 88 2 (by omega)) (by omega)) rfl rfl rfl ?_
      | refine AR.man (ok_ld (A0 := 90) (u := x.t) rfl rfl rfl (by show (itL L)[_]? = _; rw [show 0 + (n - 1) * 2 + 0 = (n - 1) * 2 + 0 from (by omega), itL_at L (n - 1) 0 x hx (by decide)]; rfl)) rfl rfl rfl ?_
      | refine AR.man (AOk.callOS (fun s => [s, .int .i64 x.t, .int .i64 w0]) 90 n 2 (itL L) (fun s => s) 93 lv.length 2 88 (itL lv) (fun w A c h => hLive w A c h) ent18 rfl rfl rfl (fun _ => rfl) rfl (fun _ _ h => h) (by decide) (by rw [itL_len, hl]) (allFC_it _) rfl rfl (fun _ => rfl) rfl (allFC_it _)) rfl rfl rfl ?_
      | refine AR.man (AOk.callS (fun s => [s]) 93 lv.length 2 (itL lv) (fun w A c h => hSp w A c h) ent19 rfl rfl rfl (fun _ => rfl) rfl (fun _ _ h => h) (by decide) (itL_len _) (allFC_it _) rfl rfl) rfl rfl rfl ?_
      | refine AR.man (AOk.callS (fun s => [.agg (List.toArray (.int .i64 5 :: .int .i64 0 :: .int .i64 w0 :: .int .i64 k :: .int .i64 1000 :: .int .i64 0 :: .int .i64 0 :: .int .i64 0 :: .int .i64 0 :: .int .i64 0 :: .int .i64 0 :: .slice none 0 0 :: .int .i64 0 :: .int .i64 0 :: .int .i64 0 :: .int .i64 0 :: .slice none 0 0 :: .int .i64 0 :: .int .i64 0 :: .int .i64 0 :: .int .i64 0 :: .int .i64 0 :: .slice none 0 0 :: .int .i64 0 :: .int .i64 0 :: .int .i64 0 :: .int .i64 0 :: .int .i64 0 :: .int .i64 0 :: .slice none 0 0 :: .int .i64 w0 :: .int .i64 k :: .int .i64 1000 :: .int .i64 x.t :: .int .i64 (n : Nat) :: s :: .int .i64 0 :: .int .i64 0 :: .int .i64 0 :: .slice none 0 0 :: .int .i64 0 :: .slice none 0 0 :: .bool false :: .int .i64 0 :: .int .i64 0 :: .int .i64 0 :: .slice none 0 0 :: .slice none 0 0 :: .int .i64 0 :: .int .i64 0 :: .int .i64 0 :: .slice none 0 0 :: .int .i64 0 :: .int .i64 0 :: .int .i64 0 :: .int .i64 0 :: .slice none 0 0 :: [])), .agg #[.int .i64 5, .int .i64 0, .int .i64 0]]) 91 lm.length 7 (mkL lm) (fun w A c h => hAsk w A c h) ent14 rfl rfl rfl (fun _ => rfl) rfl (fun _ _ h => h) (by decide) (mkL_len _) (allFC_mk _) rfl rfl) rfl rfl rfl ?_
      | refine AR.man (AOk.callS (fun s => [s]) 93 lv.length 2 (itL lv) (fun w A c h => hRf w A c h) ent20 rfl rfl rfl (fun _ => rfl) rfl (fun _ _ h => h) (by decide) (itL_len _) (allFC_it _) rfl rfl) rfl rfl rfl ?_
      | refine AR.man (AOk.bin (aeql68 _ _ _ _) rfl rfl rfl rfl rfl rfl) rfl rfl rfl ?_
      | refine AR.man (AOk.call (fun w => hHold w) ent21 rfl rfl rfl rfl rfl) rfl rfl rfl ?_
      | refine AR.man (AOk.call (fun w => g_awake w) gent15 rfl rfl rfl rfl rfl) rfl rfl rfl ?_
      | refine AR.nil ?_
      | refine KF.mk ?_
      | refine KT.mk (by kernel_rfl) ?_
      | refine SQ.normal ?_
      | refine AC.seq ?_
      | refine AC.regF ?_
      | refine AC.regT ?_
      | refine AC.condT rfl ?_
      | refine AC.condF rfl ?_
      | refine AC.block ?_
      | refine BQ.normal ?_
      | refine BQ.ret ?_
      | refine BQ.here ?_
      | refine BQ.there rfl ?_
      | refine SQ.ret ?_
      | refine SQ.exit ?_
      | refine AC.ret ?_
      | refine AC.exit ?_
      | refine AC.skip ?_
      | (refine AR.split rfl (fun h => ?_) (fun h => ?_) <;> rw [h])
      | (refine AC.cond rfl (fun h => ?_) (fun h => ?_) <;> rw [h])
      | refine FQ.ret rfl rfl ?_
      | refine FQ.normal rfl rfl ?_)
    all_goals rfl
end Go.Proofs.YtbageimconenlaaGreat
