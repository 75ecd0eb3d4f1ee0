/- The law TopSpreadTwoWays: true at every list of items. -/
import Derived.Test.YtbageimconenlaaGreatNZ
namespace Go.Proofs.YtbageimconenlaaGreat
open Go.RowKit En
set_option linter.unusedVariables false
structure Sm (D n : Nat) : Prop where
  d : D ≤ 167772160000
  n0 : 0 < n
  n1 : n ≤ 100
theorem Sm.rv {D n : Nat} (h : Sm D n) : RV (D / Nat.gcd D n) (n / Nat.gcd D n) := by
  obtain ⟨h1, h2, h3⟩ := h
  exact rv_red (by omega) h2 (by omega)
theorem Sm.mul {D n E m : Nat} (h : Sm D n) (k : Sm E m) : (D / Nat.gcd D n) * (m / Nat.gcd E m) < 9223372036854775808 := by
  have h1 : D / Nat.gcd D n ≤ 167772160000 := Nat.le_trans (Nat.div_le_self _ _) h.d
  have h2 : m / Nat.gcd E m ≤ 100 := Nat.le_trans (Nat.div_le_self _ _) k.n1
  have := Nat.mul_le_mul h1 h2
  omega
theorem hold3 {D1 n1 D n D0 n0 : Nat} (s1 : Sm D1 n1) (s : Sm D n) (s0 : Sm D0 n0) (h1 : D1 * n ≤ D * n1) (h2 : D * n0 ≤ D0 * n) (h3 : D1 * n0 ≤ D0 * n1) (w : World) :
    Calls Tryz.prog 21 #[.agg #[.int .i64 ((D1 / Nat.gcd D1 n1 : Nat)), .int .i64 ((n1 / Nat.gcd D1 n1 : Nat)), .int .i64 ((D1 / Nat.gcd D1 n1 : Nat)), .int .i64 ((n1 / Nat.gcd D1 n1 : Nat)), .int .i64 ((D0 / Nat.gcd D0 n0 : Nat)), .int .i64 ((n0 / Nat.gcd D0 n0 : Nat))], .agg #[.int .i64 ((D / Nat.gcd D n : Nat)), .int .i64 ((n / Nat.gcd D n : Nat))]] w (fun e w' => e = .returned (.bool true) ∧ Below w.heap.size w w') :=
  nb_holds _ _ _ _ _ _ _ _ ⟨s1.rv, s1.rv, s0.rv, Nat.le_refl _, cross_red s1.n0 s0.n0 h3, s1.mul s1, s0.mul s1⟩ s.rv (cross_red s1.n0 s.n0 h1) (cross_red s.n0 s0.n0 h2) (s.mul s1) (s0.mul s) w
theorem vals_drop (L : List It) (j : Nat) : vals (L.drop j) = (vals L).drop j := by unfold vals; rw [List.map_drop]
theorem drop_mono (l : List Int) {i j : Nat} (h : i ≤ j) (hj : j < l.length) {D E : Nat} (hD : topI (l.drop j) = D) (hE : topI (l.drop i) = E) : D * (l.drop i).length ≤ E * (l.drop j).length := by
  have hsp : l.drop i = (l.drop i).take (j - i) ++ l.drop j := by
    have e1 : l.drop j = (l.drop i).drop (j - i) := by rw [List.drop_drop]; congr 1; omega
    rw [e1, List.take_append_drop]
  have := topI_mono (l.drop j) (drop_ne hj) ((l.drop i).take (j - i))
  rw [← hsp, hD, hE] at this
  exact Int.ofNat_le.1 (by rw [Int.natCast_mul, Int.natCast_mul]; exact this)
theorem its_sm {L : List It} {now : Int} (h : Its L now) {j : Nat} (hj : j < L.length) : ∃ D, topI ((vals L).drop j) = ((D : Nat) : Int) ∧ Sm D ((vals L).drop j).length := by
  have hl := h.len
  have h1 := topI_bd (L.drop j) (L.drop j).length rfl (by rw [List.length_drop]; omega) fun x hx => h.val x (List.mem_of_mem_drop hx)
  rw [vals_drop] at h1
  refine ⟨(topI ((vals L).drop j)).toNat, by omega, by omega, ?_, ?_⟩
  · rw [List.length_drop, vals_len]; omega
  · rw [List.length_drop, vals_len]; omega
theorem ofD {D : Nat} {l : List Int} (h : topI l = D) : topI l = D := h
set_option maxHeartbeats 1000000 in
theorem f4_core (raw : List It) (m : Nat) (a1 a2 : Int) (hm : raw.length = m) (hr : ∀ x ∈ raw, R64 x) (w : World) (A : Option Addr) (c : Nat) (h : SL w A m c 2 (itL raw)) :
    Calls Tryz.prog 4 #[.slice A m c, .int .i64 a1, .int .i64 a2] w (fun e w' => e = .returned (.bool true) ∧ Below w.heap.size w w') := by
  obtain ⟨w0, hw⟩ : ∃ w0 : Int, 1 + a1 % 20 = w0 := ⟨_, rfl⟩
  obtain ⟨k, hk⟩ : ∃ k : Int, 1 + a2 % 4 = k := ⟨_, rfl⟩
  have g1 := Int.emod_nonneg a1 (b := 20) (by decide)
  have g2 := Int.emod_lt_of_pos a1 (b := 20) (by decide)
  have g3 := Int.emod_nonneg a2 (b := 4) (by decide)
  have g4 := Int.emod_lt_of_pos a2 (b := 4) (by decide)
  have rg : Rg w0 k := ⟨by omega, by omega, by omega, by omega⟩
  obtain ⟨n, hn⟩ : ∃ n, min m 80 = n := ⟨_, rfl⟩
  have hGo := itGo_take_spec rg.w1 rg.w2 raw n (by omega) (by omega)
  have hIt := fun (w : World) (A : Option Addr) (c : Nat) (h : SL w A m c 2 (itL raw)) => nt_items raw m w0 hm hr rg.w1 rg.w2 w A c h
  rw [hn] at hIt
  obtain ⟨hl, hI, hbd, hlast⟩ := hGo
  have htl : (raw.take n).length = n := by rw [List.length_take]; omega
  rw [htl] at hl hbd
  generalize hLd : (itGo w0 (raw.take n)).1 = L at hIt hl hI hlast
  generalize (itGo w0 (raw.take n)).2 = now at hI hbd hlast
  have hnow : now ≤ 16777216 := by omega
  obtain ⟨⟨ss, e0, hS⟩, _⟩ := mr_spec (k := k) hI rg.w1 n (by omega)
  rw [List.take_of_length_le (by omega)] at e0 hS
  -- the tick of the last item
  obtain ⟨nw, hnw⟩ : ∃ nw, nw = tk L n := ⟨_, rfl⟩
  rw [← hnw] at hS
  have hI2 := hI.pre n (by omega)
  rw [List.take_of_length_le (by omega), ← hnw] at hI2
  have hnwl : L ≠ [] → tAt L (L.length - 1) = nw := fun hne => by
    have := List.length_pos_iff.2 hne
    rw [hnw]; unfold tk; rw [if_neg (by omega), hl]
  have hnw0 : 0 ≤ nw ∧ nw ≤ 16777216 := by
    rw [hnw]; unfold tk
    split
    · omega
    · have := hI.tat (i := n - 1) (by omega); omega
  have hSP := hS.sp hI2 rg hnw0.1 hnw0.2 rfl hl
  have hans := hS.ans hI2 rg.w1 hnwl
  obtain ⟨lm, hlm⟩ : ∃ lm, mks L ss = lm := ⟨_, rfl⟩
  rw [hlm] at e0 hSP
  have hlml : ss.length = lm.length := by rw [← hlm, mks_len]
  rw [hlml] at hSP
  obtain ⟨lv, hlv⟩ : ∃ lv, L.filter (fun x => decide (nw - w0 < x.t)) = lv := ⟨_, rfl⟩
  have hRun := fun (w : World) (A : Option Addr) (c : Nat) (h : SL w A n c 2 (itL L)) => nz_run L n now w0 k hl hI hnow rg lm e0 w A c h
  rw [← hnw] at hRun
  have hLive := fun (w : World) (A : Option Addr) (c : Nat) (h : SL w A n c 2 (itL L)) => nt_live L n nw w0 lv lv.length hl (by omega) (fun x hx => (hI2.tick x hx).2) hnw0.1 hnw0.2 rg.w1 (by have := rg.w2; omega) hlv rfl w A c h
  have hlvv : ∀ x ∈ lv, -4096 ≤ x.v ∧ x.v ≤ 4096 := fun x hx => by rw [← hlv] at hx; exact hI.val x ((List.mem_filter.1 hx).1)
  have hlen := hI.len
  have mkl : ∀ s, (mkOf L s).n * (mkOf L s).q - (mkOf L s).s * (mkOf L s).s = topI ((vals L).drop (s - 1)) := fun s => rfl
  have mkn : ∀ s, (mkOf L s).n = ((((vals L).drop (s - 1)).length : Nat) : Int) := fun s => rfl
  have hget : ∀ (i s : Nat), ss[i]? = some s → lm[i]? = some (mkOf L s) := fun i s hs => by rw [← hlm]; exact mks_get hs
  cases hans with
  | none hss hL =>
    subst hss hL
    obtain rfl : lm = [] := hlm.symm
    obtain rfl : lv = [] := hlv.symm
    exact f4_walk raw [] [] m n a1 a2 w0 k nw [] 0 1 0 1 0 1 0 1 hm hl (by omega) hw hk hnw hIt hRun hLive (fun w A c h => nx_spread0 [] 0 rfl w A c h) (fun w A c h => nq_spread0 [] 0 rfl w A c h) (fun w A c h => ny_ask0 [] 0 w0 k 1000 nw n hSP rfl w A c h) (fun w => nb_holds 0 1 0 1 0 1 0 1 ⟨⟨by decide, by decide, by decide, rfl⟩, ⟨by decide, by decide, by decide, rfl⟩, ⟨by decide, by decide, by decide, rfl⟩, by decide, by decide, by decide, by decide⟩ ⟨by decide, by decide, by decide, rfl⟩ (by decide) (by decide) (by decide) (by decide) w) w A c h
  | one s h0 hs1 hs2 hlv0 hf =>
    rw [hlv] at hf
    obtain ⟨D, hD, sm⟩ := its_sm hI (j := s - 1) (by omega)
    have hlvl : ((vals L).drop (s - 1)).length = lv.length := by rw [hf, List.length_drop, List.length_drop, vals_len]
    have hDv : topI (vals lv) = D := by rw [hf, vals_drop]; exact hD
    rw [hlvl] at sm
    have hn1 : 0 < lm.length := by rw [← hlml]; exact (List.getElem?_eq_some_iff.1 h0).1
    refine f4_walk raw L lv m n a1 a2 w0 k nw lm _ _ _ _ _ _ _ _ hm hl (by omega) hw hk hnw hIt hRun hLive (fun w A c h => nx_spread lv lv.length D rfl sm.n1 hlvv sm.n0 hDv w A c h) (fun w A c h => nq_spread lv lv.length D rfl sm.n1 hlvv sm.n0 hDv w A c h) (fun w A c h => ny_ask1 lm lm.length w0 k 1000 nw n (mkOf L s) D lv.length hSP (hget 0 s h0) ((mkl s).trans hD) ((mkn s).trans (by rw [hlvl])) hlv0 hn1 w A c h) (fun w => hold3 sm sm sm (Nat.le_refl _) (Nat.le_refl _) (Nat.le_refl _) w) w A c h
  | two s r j h0 h1 hs1 hsr hs2 hdead hj1 hj2 hf =>
    rw [hlv] at hf
    obtain ⟨D0, hD0, sm0⟩ := its_sm hI (j := s - 1) (by omega)
    obtain ⟨D1, hD1, sm1⟩ := its_sm hI (j := r - 1) (by omega)
    obtain ⟨D, hD, sm⟩ := its_sm hI (j := j) (by omega)
    have hlvl : ((vals L).drop j).length = lv.length := by rw [hf, List.length_drop, List.length_drop, vals_len]
    have hDv : topI (vals lv) = D := by rw [hf, vals_drop]; exact hD
    have hn1 : 1 < lm.length := by rw [← hlml]; exact (List.getElem?_eq_some_iff.1 h1).1
    have m1 := drop_mono (vals L) hj2 (by rw [vals_len]; omega) hD1 hD
    have m2 := drop_mono (vals L) (show s - 1 ≤ j by omega) (by rw [vals_len]; omega) hD hD0
    have m3 := drop_mono (vals L) (show s - 1 ≤ r - 1 by omega) (by rw [vals_len]; omega) hD1 hD0
    rw [hlvl] at sm m1 m2
    have hdd : ¬ nw - w0 < (mkOf L s).t := by show ¬ nw - w0 < tAt L (s - 1); omega
    by_cases hnx : r = s + 1
    · have hjr : j = r - 1 := by omega
      rw [hjr] at hD hlvl
      rw [hD1] at hD
      have : D1 = D := by omega
      subst this
      rw [hlvl] at sm1
      refine f4_walk raw L lv m n a1 a2 w0 k nw lm _ _ _ _ _ _ _ _ hm hl (by omega) hw hk hnw hIt hRun hLive (fun w A c h => nx_spread lv lv.length D1 rfl sm.n1 hlvv sm.n0 hDv w A c h) (fun w A c h => nq_spread lv lv.length D1 rfl sm.n1 hlvv sm.n0 hDv w A c h) (fun w A c h => ny_ask2 lm lm.length w0 k 1000 nw n (mkOf L s) (mkOf L r) D0 _ D1 lv.length hSP (hget 0 s h0) (hget 1 r h1) ((mkl s).trans hD0) (mkn s) ((mkl r).trans hD1) ((mkn r).trans (by rw [hlvl])) hdd hn1 (by show ((r : Nat) : Int) = (s : Nat) + 1; omega) w A c h) (fun w => hold3 sm sm sm (Nat.le_refl _) (Nat.le_refl _) (Nat.le_refl _) w) w A c h
    · refine f4_walk raw L lv m n a1 a2 w0 k nw lm _ _ _ _ _ _ _ _ hm hl (by omega) hw hk hnw hIt hRun hLive (fun w A c h => nx_spread lv lv.length D rfl sm.n1 hlvv sm.n0 hDv w A c h) (fun w A c h => nq_spread lv lv.length D rfl sm.n1 hlvv sm.n0 hDv w A c h) (fun w A c h => ny_ask3 lm lm.length w0 k 1000 nw n (mkOf L s) (mkOf L r) D0 _ D1 _ hSP (hget 0 s h0) (hget 1 r h1) ((mkl s).trans hD0) (mkn s) ((mkl r).trans hD1) (mkn r) hdd hn1 (by show ((r : Nat) : Int) ≠ (s : Nat) + 1; omega) w A c h) (fun w => hold3 sm1 sm sm0 m1 m2 m3 w) w A c h
theorem topSpreadTwoWays_walk (A0 : Option Addr) (n0 c0 : Nat) (l0 : List It) (a1 a2 : Int) (w : World) (h : SL w A0 n0 c0 2 (itL l0)) (hl : l0.length = n0) (hr : ∀ x ∈ l0, R64 x) :
    Calls Tryz.prog 4 #[.slice A0 n0 c0, .int .i64 a1, .int .i64 a2] w (fun e w' => e = .returned (.bool true) ∧ Below w.heap.size w w') :=
  f4_core l0 n0 a1 a2 hl hr w A0 c0 h
end Go.Proofs.YtbageimconenlaaGreat
