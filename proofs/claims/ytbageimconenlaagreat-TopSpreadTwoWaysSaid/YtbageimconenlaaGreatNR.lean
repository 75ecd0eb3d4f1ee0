/- The spread: an item comes in; the answer. -/
import Derived.Test.YtbageimconenlaaGreatNQ
namespace Go.Proofs.YtbageimconenlaaGreat
open Go.RowKit En
set_option linter.unusedVariables false
/-- a closure over one variable -/
theorem AOk.mkf {P : Program} {s : St} {o : Oper} {g : FuncId} {x : Operand} {n : Nat} (ho : o.op = .makeFunc (.func g) #[] #[x]) (hx : ev s x = some (.pointer (some ⟨n, 0, none⟩))) : AOk P s o ⟨rq s [x], []⟩ ⟨.func (.func g) #[] #[.pointer (some ⟨n, 0, none⟩)], [], []⟩ := by
  refine .quiet fun B => ⟨Does.value (fun al hr => ?_) fun ρ a w hm => ?_, in_none, rfl, rfl⟩
  · have h := ev_nb hr (x := x) (by simp) hx
    intro ρ ρ' ha
    have h1 : Value.pointer (some (rA ρ ⟨n, 0, none⟩)) = .pointer (some (rA ρ' ⟨n, 0, none⟩)) := h ρ ρ' ha
    show Value.func (.func g) #[] #[.pointer (some (rA ρ ⟨n, 0, none⟩))] = .func (.func g) #[] #[.pointer (some (rA ρ' ⟨n, 0, none⟩))]
    rw [h1]
  · have hax := ev_eval hm (x := x) (by simp) hx
    have h2 : execOp a.eval o = pure (.value (.func (.func g) #[] #[a.eval x])) := by
      unfold execOp
      simp only [ho, Instr.makeFunc]
      simp
    rw [h2, hax]
    rfl
theorem MkOK.small {m : Mk} (h : MkOK m) : Small m := by
  obtain ⟨b1, b2, b3, b4, b5, b6, b7, b8, b9, b10, b11, b12⟩ := h.bd
  exact ⟨by omega, by omega, by omega⟩
theorem MVL.ok {l : List Mk} {sq cap now w0 least : Int} (h : MVL l sq cap now w0 least) : ∀ m ∈ l, MkOK m := fun m hm => by
  obtain ⟨i, hi, e⟩ := List.mem_iff_getElem.1 hm
  exact (h.one i m (by rw [List.getElem?_eq_getElem hi, e])).ok
theorem ent109 : Enters Tryz.prog 109 := enters Tryz.func109 (by kernel_rfl) (by kernel_rfl)
theorem ent108 : Enters Tryz.prog 108 := enters Tryz.func108 (by kernel_rfl) (by kernel_rfl)
theorem addPrune {B : Nat} {ρ : Nat → Pl} {w : World} {C : List Value} (l1 : List Mk) (n : Nat) (k w0 : Int) (out : List Mk) (hl : l1.length = n) (hn : n ≤ 1000) (hok : ∀ m ∈ l1, MkOK m) (k1 : 1 ≤ k) (k2 : k ≤ 64) (hout : out = pickI l1 (pruneI (nearI k l1) n n 0))
    (hbx : ∀ m b, (m, b) ∈ [(5, Box.vec 203 7 (mkL l1)), (1, .row 38 (.int .i64 w0 :: .int .i64 k :: C))] → BoxOK B ρ w m b) :
    Calls Tryz.prog 108 (([.slice (some ⟨5, 0, none⟩) n 0, .func (.func 113) #[] #[.pointer (some ⟨1, 0, none⟩)]] : List Value).map (rV ρ)).toArray w (fun e w' => ∃ A' c', e = .returned (.slice A' out.length c') ∧ OwnK w' w.heap.size 203 7 (.slice A' out.length c') out.length (mkL out) ∧ Below w.heap.size w w') := by
  obtain ⟨A, c, e1, e2⟩ := box_SL (hbx 5 _ List.mem_cons_self) (fun _ _ h => h) (by decide) (show (mkL l1).length = n * 7 by rw [mkL_len, hl]) (allFC_mk l1) rfl
  obtain ⟨r1, r2, r3, r4⟩ := hbx 1 _ (List.mem_cons_of_mem _ List.mem_cons_self)
  have c0 : w.cell? ⟨(ρ 1).b, 0, none⟩ = some (.int .i64 w0) := by have := r4.cell 0; exact this
  have c1 : w.cell? ⟨(ρ 1).b, 1, none⟩ = some (.int .i64 k) := by have := r4.cell 1; exact this
  have hp1 : rV ρ (.func (.func 113) #[] #[.pointer (some ⟨1, 0, none⟩)]) = .func (.func 113) #[] #[.pointer (some ⟨(ρ 1).b, 0, none⟩)] := by
    show Value.func (.func 113) #[] #[.pointer (some ⟨(ρ 1).b, (ρ 1).o + 0, none⟩)] = _
    rw [r2]
  have hp0 : rV ρ (.slice (some ⟨5, 0, none⟩) n 0) = .slice A n c := e1
  rw [List.map_cons, List.map_cons, List.map_nil, hp0, hp1]
  refine (nm_prune l1 n k w0 hl hn hok k1 k2 w A c (ρ 1).b e2 c0 c1).mono fun e w' he => ?_
  obtain ⟨A', c', out', rfl, h1, h2, h3⟩ := he
  subst hout
  exact ⟨A', c', h1, h2, h3⟩
set_option maxRecDepth 100000 in
set_option maxHeartbeats 2000000 in
theorem nS_add (l : List Mk) (n : Nat) (w0 k cap now sq v : Int) (l1 out : List Mk) (hl : l.length = n) (hn : n ≤ 900) (h1 : 1 ≤ w0) (h2 : w0 ≤ 1048576) (h3 : 1 ≤ k) (h4 : k ≤ 64) (h5 : 1 ≤ cap) (h6 : cap ≤ 65536) (h7 : 0 ≤ now) (h8 : now ≤ 16777216) (hv : MVL l sq cap now w0 (-4096)) (hcl : ∀ (i : Nat) (a b : Mk), l[i]? = some a → l[i + 2]? = some b → closeB k a b = false) (v1 : -4096 ≤ v) (v2 : v ≤ 4096) (hfull : ∀ m, l[0]? = some m → m.n ≠ cap) (hsq : sq < 1099511627776)
    (hl1 : l.map (upM v) ++ [⟨sq + 1, now, 1, v, v * v, v, v⟩] = l1) (hok1 : ∀ m ∈ l1, MkOK m) (hout : out = pickI l1 (pruneI (nearI k l1) (n + 1) (n + 1) 0)) (w : World) (A : Option Addr) (c : Nat) (h : SL w A n c 7 (mkL l)) :
    Calls Tryz.prog 45 #[.agg #[.int .i64 w0, .int .i64 k, .int .i64 cap, .int .i64 now, .int .i64 sq, .slice A n c], .int .i64 v] w (fun e w' => ∃ A' c', e = .returned (.tuple #[.agg #[.int .i64 w0, .int .i64 k, .int .i64 cap, .int .i64 now, .int .i64 (sq + 1), .slice A' out.length c'], .int .i64 0]) ∧ OwnK w' w.heap.size 203 7 (.slice A' out.length c') out.length (mkL out) ∧ Below w.heap.size w w') := by
  have hl1l : l1.length = n + 1 := by rw [← hl1]; simp [hl]
  have s0 := hv.s0
  have e1 : decide (v < -4096) = false := by simp only [decide_eq_false_iff_not]; omega
  have e2 : decide (v > 4096) = false := by simp only [decide_eq_false_iff_not]; omega
  have wq : IntKind.i64.wrap (sq + 1) = sq + 1 := IntWalk.i64_in _ (by omega)
  have e3 : (sq == 1099511627776) = false := by rw [beq_eq_false_iff_ne]; omega
  have H := fun_slice tblOK mixedP Tryz.func45 rfl (fun s => [.agg #[.int .i64 w0, .int .i64 k, .int .i64 cap, .int .i64 now, .int .i64 sq, s], .int .i64 v]) n 7 (mkL l) h (by decide) (allFC_mk l) [.agg #[.int .i64 w0, .int .i64 k, .int .i64 cap, .int .i64 now, .int .i64 sq, .slice (some ⟨0, 0, none⟩) n 0], .int .i64 v] rfl (fun _ => rfl) 56 [(0, .agg #[.int .i64 w0, .int .i64 k, .int .i64 cap, .int .i64 now, .int .i64 sq, .slice (some ⟨0, 0, none⟩) n 0]), (1, .int .i64 v)] rfl rfl (by kernel_rfl) rfl rfl (fun v st => v = .tuple #[.agg #[.int .i64 w0, .int .i64 k, .int .i64 cap, .int .i64 now, .int .i64 (sq + 1), .slice (some ⟨6, 0, none⟩) out.length 0], .int .i64 0] ∧ En.lk st.σ 6 = some (.vec 203 7 (mkL out))) (by
    by_cases hn0 : n = 0
    · have hd : decide ((n : Int) > 0) = false := by simp only [decide_eq_false_iff_not]; omega
      repeat' (first
        | rw [e1]
        | rw [e2]
        | rw [e3]
        | rw [wq]
        | rw [hd]
        | refine AR.auto rfl ?_
        | refine AR.man (AOk.callS (fun s => [.agg #[.int .i64 w0, .int .i64 k, .int .i64 cap, .int .i64 now, .int .i64 sq, s]]) 0 n 7 (mkL l) (fun w A c h => nS_valid l n w0 k cap now sq hl (by omega) h1 h2 h3 h4 h5 h6 h7 h8 hv hcl w A c h) ent112 rfl rfl rfl (fun _ => rfl) rfl (fun _ _ h => h) (by decide) (by rw [mkL_len, hl]) (allFC_mk l) rfl rfl) rfl rfl rfl ?_
        | refine AR.man (AOk.callO (fun s => s) 5 (n + 1) 7 203 (mkL l1) (σ := [(0, .view 7 (mkL l))]) (fun B ρ w hB hbx => by obtain ⟨A, c, e1, e2⟩ := box_SL (hbx 0 _ List.mem_cons_self) (fun _ _ h => h) (by decide) (show (mkL l).length = n * 7 by rw [mkL_len, hl]) (allFC_mk l) rfl; exact (show ([.slice (some ⟨0, 0, none⟩) n 0, Value.int .i64 (sq + 1), .int .i64 now, .int .i64 v].map (rV ρ)) = [.slice A n c, .int .i64 (sq + 1), .int .i64 now, .int .i64 v] by rw [List.map_cons, show rV ρ (.slice (some ⟨0, 0, none⟩) n 0) = .slice A n c from e1]; rfl) ▸ hl1 ▸ nm_add l n (sq + 1) now v hl (by omega) (fun m hm => (hv.ok m hm).small) v1 v2 w A c e2) ent109 rfl rfl rfl (fun n b h => by simp at h; obtain ⟨rfl, rfl⟩ := h; rfl) rfl (fun _ => rfl) rfl (allFC_mk _)) rfl rfl rfl ?_
        | refine AR.man (AOk.mkf rfl rfl) rfl rfl rfl ?_
        | refine AR.man (AOk.callO (fun s => s) 6 out.length 7 203 (mkL out) (σ := [(5, .vec 203 7 (mkL l1)), (1, .row 38 [.int .i64 w0, .int .i64 k, .int .i64 cap, .int .i64 now, .int .i64 (sq + 1), .slice (some ⟨0, 0, none⟩) n 0])]) (fun B ρ w hB hbx => addPrune l1 (n + 1) k w0 out hl1l (by omega) hok1 h3 h4 hout hbx) ent108 rfl rfl rfl (fun n b h => by simp at h; rcases h with ⟨rfl, rfl⟩ | ⟨rfl, rfl⟩ <;> rfl) rfl (fun _ => rfl) rfl (allFC_mk _)) rfl rfl rfl ?_
        | refine AR.nil ?_
        | refine KF.mk ?_
        | refine KT.mk (by kernel_rfl) ?_
        | refine SQ.normal ?_
        | refine AC.seq ?_
        | refine AC.regF ?_
        | refine AC.regT ?_
        | refine AC.condT rfl ?_
        | refine AC.condF rfl ?_
        | refine AC.block ?_
        | refine BQ.normal ?_
        | refine BQ.ret ?_
        | refine BQ.here ?_
        | refine BQ.there rfl ?_
        | refine SQ.ret ?_
        | refine SQ.exit ?_
        | refine AC.ret ?_
        | refine AC.exit ?_
        | refine AC.skip ?_
        | (refine AR.split rfl (fun h => ?_) (fun h => ?_) <;> rw [h])
        | (refine AC.cond rfl (fun h => ?_) (fun h => ?_) <;> rw [h])
        | refine FQ.ret rfl rfl ?_
        | refine FQ.normal rfl rfl ?_)
      all_goals exact ⟨rfl, rfl⟩
    · have hd : decide ((n : Int) > 0) = true := by simp only [decide_eq_true_eq]; omega
      obtain ⟨a, ha⟩ : ∃ a, l[0]? = some a := ⟨l[0]'(by omega), List.getElem?_eq_getElem (by omega)⟩
      have e4 : (a.n == cap) = false := by rw [beq_eq_false_iff_ne]; exact hfull a ha
      repeat' (first
        | rw [e1]
        | rw [e2]
        | rw [e3]
        | rw [e4]
        | rw [wq]
        | rw [hd]
        | refine AR.auto rfl ?_
        | refine AR.man (AOk.callS (fun s => [.agg #[.int .i64 w0, .int .i64 k, .int .i64 cap, .int .i64 now, .int .i64 sq, s]]) 0 n 7 (mkL l) (fun w A c h => nS_valid l n w0 k cap now sq hl (by omega) h1 h2 h3 h4 h5 h6 h7 h8 hv hcl w A c h) ent112 rfl rfl rfl (fun _ => rfl) rfl (fun _ _ h => h) (by decide) (by rw [mkL_len, hl]) (allFC_mk l) rfl rfl) rfl rfl rfl ?_
        | refine AR.man (okm_idx (A0 := 0) (i := 0) rfl rfl rfl rfl (nonE_mkv 7 (by omega)) (by omega)) rfl rfl rfl ?_
        | refine AR.man (ok_ld (A0 := 0) (u := a.n) rfl rfl rfl (by show (mkL l)[_]? = _; rw [show 0 + 0 * 7 + 2 = 0 * 7 + 2 from rfl, mkL_at l 0 2 a ha (by decide)]; rfl)) rfl rfl rfl ?_
        | refine AR.man (AOk.callO (fun s => s) 5 (n + 1) 7 203 (mkL l1) (σ := [(0, .view 7 (mkL l))]) (fun B ρ w hB hbx => by obtain ⟨A, c, e1, e2⟩ := box_SL (hbx 0 _ List.mem_cons_self) (fun _ _ h => h) (by decide) (show (mkL l).length = n * 7 by rw [mkL_len, hl]) (allFC_mk l) rfl; exact (show ([.slice (some ⟨0, 0, none⟩) n 0, Value.int .i64 (sq + 1), .int .i64 now, .int .i64 v].map (rV ρ)) = [.slice A n c, .int .i64 (sq + 1), .int .i64 now, .int .i64 v] by rw [List.map_cons, show rV ρ (.slice (some ⟨0, 0, none⟩) n 0) = .slice A n c from e1]; rfl) ▸ hl1 ▸ nm_add l n (sq + 1) now v hl (by omega) (fun m hm => (hv.ok m hm).small) v1 v2 w A c e2) ent109 rfl rfl rfl (fun n b h => by simp at h; obtain ⟨rfl, rfl⟩ := h; rfl) rfl (fun _ => rfl) rfl (allFC_mk _)) rfl rfl rfl ?_
        | refine AR.man (AOk.mkf rfl rfl) rfl rfl rfl ?_
        | refine AR.man (AOk.callO (fun s => s) 6 out.length 7 203 (mkL out) (σ := [(5, .vec 203 7 (mkL l1)), (1, .row 38 [.int .i64 w0, .int .i64 k, .int .i64 cap, .int .i64 now, .int .i64 (sq + 1), .slice (some ⟨0, 0, none⟩) n 0])]) (fun B ρ w hB hbx => addPrune l1 (n + 1) k w0 out hl1l (by omega) hok1 h3 h4 hout hbx) ent108 rfl rfl rfl (fun n b h => by simp at h; rcases h with ⟨rfl, rfl⟩ | ⟨rfl, rfl⟩ <;> rfl) rfl (fun _ => rfl) rfl (allFC_mk _)) rfl rfl rfl ?_
        | refine AR.nil ?_
        | refine KF.mk ?_
        | refine KT.mk (by kernel_rfl) ?_
        | refine SQ.normal ?_
        | refine AC.seq ?_
        | refine AC.regF ?_
        | refine AC.regT ?_
        | refine AC.condT rfl ?_
        | refine AC.condF rfl ?_
        | refine AC.block ?_
        | refine BQ.normal ?_
        | refine BQ.ret ?_
        | refine BQ.here ?_
        | refine BQ.there rfl ?_
        | refine SQ.ret ?_
        | refine SQ.exit ?_
        | refine AC.ret ?_
        | refine AC.exit ?_
        | refine AC.skip ?_
        | (refine AR.split rfl (fun h => ?_) (fun h => ?_) <;> rw [h])
        | (refine AC.cond rfl (fun h => ?_) (fun h => ?_) <;> rw [h])
        | refine FQ.ret rfl rfl ?_
        | refine FQ.normal rfl rfl ?_)
      all_goals exact ⟨rfl, rfl⟩)
  refine H.mono fun e w' he => ?_
  obtain ⟨v', st, ρ, a, ⟨rfl, hq⟩, rfl, hs⟩ := he
  obtain ⟨A', c', h10, h11⟩ := vec_own (n := out.length) (hs.bx _ _ hq).1 (by rw [mkL_len]) (by decide) (allFC_mk _)
  have e9 : rV ρ (.tuple #[.agg #[.int .i64 w0, .int .i64 k, .int .i64 cap, .int .i64 now, .int .i64 (sq + 1), .slice (some ⟨6, 0, none⟩) out.length 0], .int .i64 0]) = .tuple #[.agg #[.int .i64 w0, .int .i64 k, .int .i64 cap, .int .i64 now, .int .i64 (sq + 1), (rC ρ (.slice (some ⟨6, 0, none⟩) out.length 0))], .int .i64 0] := rfl
  exact ⟨A', c', by rw [e9, h10], h11, hs.bl⟩
set_option maxRecDepth 100000 in
set_option maxHeartbeats 2000000 in
theorem nS_ask0 (l : List Mk) (n : Nat) (w0 k cap now sq : Int)  (hl : l.length = n) (hn : n ≤ 900) (h1 : 1 ≤ w0) (h2 : w0 ≤ 1048576) (h3 : 1 ≤ k) (h4 : k ≤ 64) (h5 : 1 ≤ cap) (h6 : cap ≤ 65536) (h7 : 0 ≤ now) (h8 : now ≤ 16777216) (hv : MVL l sq cap now w0 (-4096)) (hcl : ∀ (i : Nat) (a b : Mk), l[i]? = some a → l[i + 2]? = some b → closeB k a b = false) (hn0 : n = 0) (w : World) (A : Option Addr) (c : Nat) (h : SL w A n c 7 (mkL l)) :
    Calls Tryz.prog 57 #[.agg #[.int .i64 w0, .int .i64 k, .int .i64 cap, .int .i64 now, .int .i64 sq, .slice A n c]] w (fun e w' => e = .returned (.tuple #[.agg #[.int .i64 0, .int .i64 1, .int .i64 0, .int .i64 1, .int .i64 0, .int .i64 1], .int .i64 0]) ∧ Below w.heap.size w w') := by
  have hd : ((n : Int) == 0) = true := by rw [hn0]; rfl
  refine fun_sliceF tblOK mixedP Tryz.func57 rfl (fun s => [.agg #[.int .i64 w0, .int .i64 k, .int .i64 cap, .int .i64 now, .int .i64 sq, s]]) n 7 (mkL l) h (by decide) (allFC_mk l) [.agg #[.int .i64 w0, .int .i64 k, .int .i64 cap, .int .i64 now, .int .i64 sq, .slice (some ⟨0, 0, none⟩) n 0]] rfl (fun _ => rfl) 62 [(0, .agg #[.int .i64 w0, .int .i64 k, .int .i64 cap, .int .i64 now, .int .i64 sq, .slice (some ⟨0, 0, none⟩) n 0])] rfl rfl (by kernel_rfl) rfl rfl _ rfl ?_
  repeat' (first
    | rw [hd]
    | refine AR.auto rfl ?_
    | refine AR.man (AOk.callS (fun s => [.agg #[.int .i64 w0, .int .i64 k, .int .i64 cap, .int .i64 now, .int .i64 sq, s]]) 0 n 7 (mkL l) (fun w A c h => nS_valid l n w0 k cap now sq hl (by omega) h1 h2 h3 h4 h5 h6 h7 h8 hv hcl w A c h) ent112 rfl rfl rfl (fun _ => rfl) rfl (fun _ _ h => h) (by decide) (by rw [mkL_len, hl]) (allFC_mk l) rfl rfl) rfl rfl rfl ?_
    | refine AR.man (AOk.call (gr_of 0) ent67 rfl rfl rfl rfl rfl) rfl rfl rfl ?_
    | refine AR.man (ok_nb_exact (n := 0) (d := 1) ⟨by decide, by decide, by decide, rfl⟩ rfl rfl rfl) rfl rfl rfl ?_
    | refine AR.nil ?_
    | refine KF.mk ?_
    | refine KT.mk (by kernel_rfl) ?_
    | refine SQ.normal ?_
    | refine AC.seq ?_
    | refine AC.regF ?_
    | refine AC.regT ?_
    | refine AC.condT rfl ?_
    | refine AC.condF rfl ?_
    | refine AC.block ?_
    | refine BQ.normal ?_
    | refine BQ.ret ?_
    | refine BQ.here ?_
    | refine BQ.there rfl ?_
    | refine SQ.ret ?_
    | refine SQ.exit ?_
    | refine AC.ret ?_
    | refine AC.exit ?_
    | refine AC.skip ?_
    | (refine AR.split rfl (fun h => ?_) (fun h => ?_) <;> rw [h])
    | (refine AC.cond rfl (fun h => ?_) (fun h => ?_) <;> rw [h])
    | refine FQ.ret rfl rfl ?_
    | refine FQ.normal rfl rfl ?_)
  all_goals rfl
theorem red_co {a b : Nat} (hb : 0 < b) : Nat.gcd (a / Nat.gcd a b) (b / Nat.gcd a b) = 1 := by
  rw [Nat.gcd_div (Nat.gcd_dvd_left a b) (Nat.gcd_dvd_right a b), Nat.div_self (Nat.gcd_pos_of_pos_right _ hb)]
theorem rv_red {x y : Nat} (hx : x < 4611686018427387904) (h0 : 0 < y) (hy : y < 4611686018427387904) : RV (x / Nat.gcd x y) (y / Nat.gcd x y) :=
  ⟨Nat.lt_of_le_of_lt (Nat.div_le_self _ _) hx, Nat.div_pos (Nat.gcd_le_right _ h0) (Nat.gcd_pos_of_pos_right _ h0), Nat.lt_of_le_of_lt (Nat.div_le_self _ _) hy, red_co h0⟩
set_option maxRecDepth 100000 in
set_option maxHeartbeats 2000000 in
theorem nS_ask1 (l : List Mk) (n : Nat) (w0 k cap now sq : Int) (a : Mk) (x y : Nat) (hl : l.length = n) (hn : n ≤ 900) (h1 : 1 ≤ w0) (h2 : w0 ≤ 1048576) (h3 : 1 ≤ k) (h4 : k ≤ 64) (h5 : 1 ≤ cap) (h6 : cap ≤ 65536) (h7 : 0 ≤ now) (h8 : now ≤ 16777216) (hv : MVL l sq cap now w0 (-4096)) (hcl : ∀ (i : Nat) (a b : Mk), l[i]? = some a → l[i + 2]? = some b → closeB k a b = false) (ha : l[0]? = some a) (hx : a.n * a.q - a.s * a.s = x) (hy : a.n = y) (hlive : now - w0 < a.t) (hn0 : 0 < n) (w : World) (A : Option Addr) (c : Nat) (h : SL w A n c 7 (mkL l)) :
    Calls Tryz.prog 57 #[.agg #[.int .i64 w0, .int .i64 k, .int .i64 cap, .int .i64 now, .int .i64 sq, .slice A n c]] w (fun e w' => e = .returned (.tuple #[.agg #[.int .i64 ((x / Nat.gcd x y : Nat)), .int .i64 ((y / Nat.gcd x y : Nat)), .int .i64 ((x / Nat.gcd x y : Nat)), .int .i64 ((y / Nat.gcd x y : Nat)), .int .i64 ((x / Nat.gcd x y : Nat)), .int .i64 ((y / Nat.gcd x y : Nat))], .int .i64 0]) ∧ Below w.heap.size w w') := by
  have hd : ((n : Int) == 0) = false := by rw [beq_eq_false_iff_ne]; omega
  have gA := hv.one 0 a ha
  obtain ⟨b1, b2, b3, b4, b5, b6, b7, b8, b9, b10, b11, b12⟩ := gA.ok.bd
  have rA := rv_red (x := x) (y := y) (by omega) (by omega) (by omega)
  have hlv : decide (now - w0 < a.t) = true := by simp only [decide_eq_true_eq]; exact hlive
  refine fun_sliceF tblOK mixedP Tryz.func57 rfl (fun s => [.agg #[.int .i64 w0, .int .i64 k, .int .i64 cap, .int .i64 now, .int .i64 sq, s]]) n 7 (mkL l) h (by decide) (allFC_mk l) [.agg #[.int .i64 w0, .int .i64 k, .int .i64 cap, .int .i64 now, .int .i64 sq, .slice (some ⟨0, 0, none⟩) n 0]] rfl (fun _ => rfl) 62 [(0, .agg #[.int .i64 w0, .int .i64 k, .int .i64 cap, .int .i64 now, .int .i64 sq, .slice (some ⟨0, 0, none⟩) n 0])] rfl rfl (by kernel_rfl) rfl rfl _ rfl ?_
  repeat' (first
    | rw [hd]
    | rw [hlv]
    | refine AR.auto rfl ?_
    | refine AR.man (AOk.callS (fun s => [.agg #[.int .i64 w0, .int .i64 k, .int .i64 cap, .int .i64 now, .int .i64 sq, s]]) 0 n 7 (mkL l) (fun w A c h => nS_valid l n w0 k cap now sq hl (by omega) h1 h2 h3 h4 h5 h6 h7 h8 hv hcl w A c h) ent112 rfl rfl rfl (fun _ => rfl) rfl (fun _ _ h => h) (by decide) (by rw [mkL_len, hl]) (allFC_mk l) rfl rfl) rfl rfl rfl ?_
    | refine AR.man (okm_idx (A0 := 0) (i := 0) rfl rfl rfl rfl (nonE_mkv 7 (by omega)) (by omega)) rfl rfl rfl ?_
    | refine AR.man (okm_ld (m := a) rfl rfl rfl (fun jj u hu => by rw [show 0 + 0 * 7 + jj = 0 * 7 + jj from (by omega), show (Box.view 7 (mkL l)).cells = mkL l from rfl, mkL_at l 0 jj a ha (by have := (List.getElem?_eq_some_iff.1 hu).1; simpa [mkC] using this)]; exact hu)) rfl rfl rfl ?_
    | refine AR.man (ok_ns_of (m := a) (x := x) (y := y) gA.ok hx hy rfl rfl rfl) rfl rfl rfl ?_
    | refine AR.man (ok_nc_live (now := now) (w0 := w0) (t := a.t) h7 h8 h1 h2 gA.a5 gA.a6 rfl rfl rfl) rfl rfl rfl ?_
    | refine AR.man (ok_nb_exact (n := x / Nat.gcd x y) (d := y / Nat.gcd x y) rA rfl rfl rfl) rfl rfl rfl ?_
    | refine AR.nil ?_
    | refine KF.mk ?_
    | refine KT.mk (by kernel_rfl) ?_
    | refine SQ.normal ?_
    | refine AC.seq ?_
    | refine AC.regF ?_
    | refine AC.regT ?_
    | refine AC.condT rfl ?_
    | refine AC.condF rfl ?_
    | refine AC.block ?_
    | refine BQ.normal ?_
    | refine BQ.ret ?_
    | refine BQ.here ?_
    | refine BQ.there rfl ?_
    | refine SQ.ret ?_
    | refine SQ.exit ?_
    | refine AC.ret ?_
    | refine AC.exit ?_
    | refine AC.skip ?_
    | (refine AR.split rfl (fun h => ?_) (fun h => ?_) <;> rw [h])
    | (refine AC.cond rfl (fun h => ?_) (fun h => ?_) <;> rw [h])
    | refine FQ.ret rfl rfl ?_
    | refine FQ.normal rfl rfl ?_)
  all_goals rfl
set_option maxRecDepth 100000 in
set_option maxHeartbeats 2000000 in
theorem nS_ask2 (l : List Mk) (n : Nat) (w0 k cap now sq : Int) (a b : Mk) (x y u z : Nat) (hl : l.length = n) (hn : n ≤ 900) (h1 : 1 ≤ w0) (h2 : w0 ≤ 1048576) (h3 : 1 ≤ k) (h4 : k ≤ 64) (h5 : 1 ≤ cap) (h6 : cap ≤ 65536) (h7 : 0 ≤ now) (h8 : now ≤ 16777216) (hv : MVL l sq cap now w0 (-4096)) (hcl : ∀ (i : Nat) (a b : Mk), l[i]? = some a → l[i + 2]? = some b → closeB k a b = false) (ha : l[0]? = some a) (hb : l[1]? = some b) (hx : a.n * a.q - a.s * a.s = x) (hy : a.n = y) (hu : b.n * b.q - b.s * b.s = u) (hz : b.n = z) (hdead : ¬ now - w0 < a.t) (hn0 : 1 < n) (hnext : b.seq = a.seq + 1) (w : World) (A : Option Addr) (c : Nat) (h : SL w A n c 7 (mkL l)) :
    Calls Tryz.prog 57 #[.agg #[.int .i64 w0, .int .i64 k, .int .i64 cap, .int .i64 now, .int .i64 sq, .slice A n c]] w (fun e w' => e = .returned (.tuple #[.agg #[.int .i64 ((u / Nat.gcd u z : Nat)), .int .i64 ((z / Nat.gcd u z : Nat)), .int .i64 ((u / Nat.gcd u z : Nat)), .int .i64 ((z / Nat.gcd u z : Nat)), .int .i64 ((u / Nat.gcd u z : Nat)), .int .i64 ((z / Nat.gcd u z : Nat))], .int .i64 0]) ∧ Below w.heap.size w w') := by
  have hd : ((n : Int) == 0) = false := by rw [beq_eq_false_iff_ne]; omega
  have gA := hv.one 0 a ha
  obtain ⟨b1, b2, b3, b4, b5, b6, b7, b8, b9, b10, b11, b12⟩ := gA.ok.bd
  have rA := rv_red (x := x) (y := y) (by omega) (by omega) (by omega)
  have gB := hv.one 1 b hb
  obtain ⟨c1, c2, c3, c4, c5, c6, c7, c8, c9, c10, c11, c12⟩ := gB.ok.bd
  have rB := rv_red (x := u) (y := z) (by omega) (by omega) (by omega)
  have hlv : decide (now - w0 < a.t) = false := by simp only [decide_eq_false_iff_not]; omega
  have a1 := gA.a1
  have a2 := gA.a2
  have s1 := hv.s1
  have wq : IntKind.i64.wrap (a.seq + 1) = a.seq + 1 := IntWalk.i64_in _ (by omega)
  have hnx : (b.seq == a.seq + 1) = true := by rw [beq_iff_eq]; exact hnext
  refine fun_sliceF tblOK mixedP Tryz.func57 rfl (fun s => [.agg #[.int .i64 w0, .int .i64 k, .int .i64 cap, .int .i64 now, .int .i64 sq, s]]) n 7 (mkL l) h (by decide) (allFC_mk l) [.agg #[.int .i64 w0, .int .i64 k, .int .i64 cap, .int .i64 now, .int .i64 sq, .slice (some ⟨0, 0, none⟩) n 0]] rfl (fun _ => rfl) 62 [(0, .agg #[.int .i64 w0, .int .i64 k, .int .i64 cap, .int .i64 now, .int .i64 sq, .slice (some ⟨0, 0, none⟩) n 0])] rfl rfl (by kernel_rfl) rfl rfl _ rfl ?_
  repeat' (first
    | rw [hd]
    | rw [hlv]
    | rw [wq]
    | rw [hnx]
    | refine AR.auto rfl ?_
    | refine AR.man (AOk.callS (fun s => [.agg #[.int .i64 w0, .int .i64 k, .int .i64 cap, .int .i64 now, .int .i64 sq, s]]) 0 n 7 (mkL l) (fun w A c h => nS_valid l n w0 k cap now sq hl (by omega) h1 h2 h3 h4 h5 h6 h7 h8 hv hcl w A c h) ent112 rfl rfl rfl (fun _ => rfl) rfl (fun _ _ h => h) (by decide) (by rw [mkL_len, hl]) (allFC_mk l) rfl rfl) rfl rfl rfl ?_
    | refine AR.man (okm_idx (A0 := 0) (i := 0) rfl rfl rfl rfl (nonE_mkv 7 (by omega)) (by omega)) rfl rfl rfl ?_
    | refine AR.man (okm_ld (m := a) rfl rfl rfl (fun jj u hu => by rw [show 0 + 0 * 7 + jj = 0 * 7 + jj from (by omega), show (Box.view 7 (mkL l)).cells = mkL l from rfl, mkL_at l 0 jj a ha (by have := (List.getElem?_eq_some_iff.1 hu).1; simpa [mkC] using this)]; exact hu)) rfl rfl rfl ?_
    | refine AR.man (okm_idx (A0 := 0) (i := 1) rfl rfl rfl rfl (nonE_mkv 7 (by omega)) (by omega)) rfl rfl rfl ?_
    | refine AR.man (okm_ld (m := b) rfl rfl rfl (fun jj u hu => by rw [show 0 + 1 * 7 + jj = 1 * 7 + jj from (by omega), show (Box.view 7 (mkL l)).cells = mkL l from rfl, mkL_at l 1 jj b hb (by have := (List.getElem?_eq_some_iff.1 hu).1; simpa [mkC] using this)]; exact hu)) rfl rfl rfl ?_
    | refine AR.man (ok_ns_of (m := a) (x := x) (y := y) gA.ok hx hy rfl rfl rfl) rfl rfl rfl ?_
    | refine AR.man (ok_ns_of (m := b) (x := u) (y := z) gB.ok hu hz rfl rfl rfl) rfl rfl rfl ?_
    | refine AR.man (ok_nc_live (now := now) (w0 := w0) (t := a.t) h7 h8 h1 h2 gA.a5 gA.a6 rfl rfl rfl) rfl rfl rfl ?_
    | refine AR.man (ok_nb_exact (n := u / Nat.gcd u z) (d := z / Nat.gcd u z) rB rfl rfl rfl) rfl rfl rfl ?_
    | refine AR.nil ?_
    | refine KF.mk ?_
    | refine KT.mk (by kernel_rfl) ?_
    | refine SQ.normal ?_
    | refine AC.seq ?_
    | refine AC.regF ?_
    | refine AC.regT ?_
    | refine AC.condT rfl ?_
    | refine AC.condF rfl ?_
    | refine AC.block ?_
    | refine BQ.normal ?_
    | refine BQ.ret ?_
    | refine BQ.here ?_
    | refine BQ.there rfl ?_
    | refine SQ.ret ?_
    | refine SQ.exit ?_
    | refine AC.ret ?_
    | refine AC.exit ?_
    | refine AC.skip ?_
    | (refine AR.split rfl (fun h => ?_) (fun h => ?_) <;> rw [h])
    | (refine AC.cond rfl (fun h => ?_) (fun h => ?_) <;> rw [h])
    | refine FQ.ret rfl rfl ?_
    | refine FQ.normal rfl rfl ?_)
  all_goals rfl
set_option maxRecDepth 100000 in
set_option maxHeartbeats 2000000 in
theorem nS_ask3 (l : List Mk) (n : Nat) (w0 k cap now sq : Int) (a b : Mk) (x y u z : Nat) (hl : l.length = n) (hn : n ≤ 900) (h1 : 1 ≤ w0) (h2 : w0 ≤ 1048576) (h3 : 1 ≤ k) (h4 : k ≤ 64) (h5 : 1 ≤ cap) (h6 : cap ≤ 65536) (h7 : 0 ≤ now) (h8 : now ≤ 16777216) (hv : MVL l sq cap now w0 (-4096)) (hcl : ∀ (i : Nat) (a b : Mk), l[i]? = some a → l[i + 2]? = some b → closeB k a b = false) (ha : l[0]? = some a) (hb : l[1]? = some b) (hx : a.n * a.q - a.s * a.s = x) (hy : a.n = y) (hu : b.n * b.q - b.s * b.s = u) (hz : b.n = z) (hdead : ¬ now - w0 < a.t) (hn0 : 1 < n) (hnext : b.seq ≠ a.seq + 1) (w : World) (A : Option Addr) (c : Nat) (h : SL w A n c 7 (mkL l)) :
    Calls Tryz.prog 57 #[.agg #[.int .i64 w0, .int .i64 k, .int .i64 cap, .int .i64 now, .int .i64 sq, .slice A n c]] w (fun e w' => e = .returned (.tuple #[.agg #[.int .i64 ((u / Nat.gcd u z : Nat)), .int .i64 ((z / Nat.gcd u z : Nat)), .int .i64 ((u / Nat.gcd u z : Nat)), .int .i64 ((z / Nat.gcd u z : Nat)), .int .i64 ((x / Nat.gcd x y : Nat)), .int .i64 ((y / Nat.gcd x y : Nat))], .int .i64 0]) ∧ Below w.heap.size w w') := by
  have hd : ((n : Int) == 0) = false := by rw [beq_eq_false_iff_ne]; omega
  have gA := hv.one 0 a ha
  obtain ⟨b1, b2, b3, b4, b5, b6, b7, b8, b9, b10, b11, b12⟩ := gA.ok.bd
  have rA := rv_red (x := x) (y := y) (by omega) (by omega) (by omega)
  have gB := hv.one 1 b hb
  obtain ⟨c1, c2, c3, c4, c5, c6, c7, c8, c9, c10, c11, c12⟩ := gB.ok.bd
  have rB := rv_red (x := u) (y := z) (by omega) (by omega) (by omega)
  have hlv : decide (now - w0 < a.t) = false := by simp only [decide_eq_false_iff_not]; omega
  have a1 := gA.a1
  have a2 := gA.a2
  have s1 := hv.s1
  have wq : IntKind.i64.wrap (a.seq + 1) = a.seq + 1 := IntWalk.i64_in _ (by omega)
  have hnx : (b.seq == a.seq + 1) = false := by rw [beq_eq_false_iff_ne]; exact hnext
  refine fun_sliceF tblOK mixedP Tryz.func57 rfl (fun s => [.agg #[.int .i64 w0, .int .i64 k, .int .i64 cap, .int .i64 now, .int .i64 sq, s]]) n 7 (mkL l) h (by decide) (allFC_mk l) [.agg #[.int .i64 w0, .int .i64 k, .int .i64 cap, .int .i64 now, .int .i64 sq, .slice (some ⟨0, 0, none⟩) n 0]] rfl (fun _ => rfl) 62 [(0, .agg #[.int .i64 w0, .int .i64 k, .int .i64 cap, .int .i64 now, .int .i64 sq, .slice (some ⟨0, 0, none⟩) n 0])] rfl rfl (by kernel_rfl) rfl rfl _ rfl ?_
  repeat' (first
    | rw [hd]
    | rw [hlv]
    | rw [wq]
    | rw [hnx]
    | refine AR.auto rfl ?_
    | refine AR.man (AOk.callS (fun s => [.agg #[.int .i64 w0, .int .i64 k, .int .i64 cap, .int .i64 now, .int .i64 sq, s]]) 0 n 7 (mkL l) (fun w A c h => nS_valid l n w0 k cap now sq hl (by omega) h1 h2 h3 h4 h5 h6 h7 h8 hv hcl w A c h) ent112 rfl rfl rfl (fun _ => rfl) rfl (fun _ _ h => h) (by decide) (by rw [mkL_len, hl]) (allFC_mk l) rfl rfl) rfl rfl rfl ?_
    | refine AR.man (okm_idx (A0 := 0) (i := 0) rfl rfl rfl rfl (nonE_mkv 7 (by omega)) (by omega)) rfl rfl rfl ?_
    | refine AR.man (okm_ld (m := a) rfl rfl rfl (fun jj u hu => by rw [show 0 + 0 * 7 + jj = 0 * 7 + jj from (by omega), show (Box.view 7 (mkL l)).cells = mkL l from rfl, mkL_at l 0 jj a ha (by have := (List.getElem?_eq_some_iff.1 hu).1; simpa [mkC] using this)]; exact hu)) rfl rfl rfl ?_
    | refine AR.man (okm_idx (A0 := 0) (i := 1) rfl rfl rfl rfl (nonE_mkv 7 (by omega)) (by omega)) rfl rfl rfl ?_
    | refine AR.man (okm_ld (m := b) rfl rfl rfl (fun jj u hu => by rw [show 0 + 1 * 7 + jj = 1 * 7 + jj from (by omega), show (Box.view 7 (mkL l)).cells = mkL l from rfl, mkL_at l 1 jj b hb (by have := (List.getElem?_eq_some_iff.1 hu).1; simpa [mkC] using this)]; exact hu)) rfl rfl rfl ?_
    | refine AR.man (ok_ns_of (m := a) (x := x) (y := y) gA.ok hx hy rfl rfl rfl) rfl rfl rfl ?_
    | refine AR.man (ok_ns_of (m := b) (x := u) (y := z) gB.ok hu hz rfl rfl rfl) rfl rfl rfl ?_
    | refine AR.man (ok_nc_live (now := now) (w0 := w0) (t := a.t) h7 h8 h1 h2 gA.a5 gA.a6 rfl rfl rfl) rfl rfl rfl ?_
    | refine AR.man (ok_nb_exact (n := u / Nat.gcd u z) (d := z / Nat.gcd u z) rB rfl rfl rfl) rfl rfl rfl ?_
    | refine AR.nil ?_
    | refine KF.mk ?_
    | refine KT.mk (by kernel_rfl) ?_
    | refine SQ.normal ?_
    | refine AC.seq ?_
    | refine AC.regF ?_
    | refine AC.regT ?_
    | refine AC.condT rfl ?_
    | refine AC.condF rfl ?_
    | refine AC.block ?_
    | refine BQ.normal ?_
    | refine BQ.ret ?_
    | refine BQ.here ?_
    | refine BQ.there rfl ?_
    | refine SQ.ret ?_
    | refine SQ.exit ?_
    | refine AC.ret ?_
    | refine AC.exit ?_
    | refine AC.skip ?_
    | (refine AR.split rfl (fun h => ?_) (fun h => ?_) <;> rw [h])
    | (refine AC.cond rfl (fun h => ?_) (fun h => ?_) <;> rw [h])
    | refine FQ.ret rfl rfl ?_
    | refine FQ.normal rfl rfl ?_)
  all_goals rfl
end Go.Proofs.YtbageimconenlaaGreat
