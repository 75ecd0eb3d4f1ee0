/- The law TopQuantiles: true at every configuration, list of items and question. | A list of items, and a configuration, as arguments: what the reading of them says of memory. -/
import Derived.Test.YtbageimconenlaaGreatQZ
import Derived.Deep.SlicePairs
import Derived.Lib.SmallJoins
namespace Go.Proofs.YtbageimconenlaaGreat
open Go.RowKit En
set_option linter.unusedVariables false
set_option maxHeartbeats 1000000 in
theorem f5_core (raw : List It) (m : Nat) (kd ag c1 k1 cp1 p1 ch1 mx1 ap aq v : Int) (hm : raw.length = m) (hr : ∀ x ∈ raw, R64 x) (w : World) (A : Option Addr) (c : Nat) (h : SL w A m c 2 (itL raw)) :
    Calls Tryz.prog 5 #[.agg #[.int .i64 kd, .int .i64 ag, .int .i64 c1, .int .i64 k1, .int .i64 cp1, .int .i64 p1, .int .i64 ch1, .int .i64 mx1], .slice A m c, .int .i64 ap, .int .i64 aq, .int .i64 v] w (fun e w' => e = .returned (.bool true) ∧ Below w.heap.size w w') := by
  obtain ⟨w0, hw⟩ : ∃ w0 : Int, 1 + c1 % 20 = w0 := ⟨_, rfl⟩
  have g1 := Int.emod_nonneg c1 (b := 20) (by decide)
  have g2 := Int.emod_lt_of_pos c1 (b := 20) (by decide)
  have g3 := Int.emod_nonneg k1 (b := 3) (by decide)
  have g4 := Int.emod_lt_of_pos k1 (b := 3) (by decide)
  have g5 := Int.emod_nonneg cp1 (b := 60) (by decide)
  have g6 := Int.emod_lt_of_pos cp1 (b := 60) (by decide)
  have g7 := Int.emod_nonneg aq (b := 20) (by decide)
  have g8 := Int.emod_lt_of_pos aq (b := 20) (by decide)
  obtain ⟨k, hk⟩ : ∃ k : Nat, 1 + k1 % 3 = ((k : Nat) : Int) := ⟨(1 + k1 % 3).toNat, by omega⟩
  obtain ⟨cap, hcp⟩ : ∃ cap : Nat, 2 + cp1 % 60 = ((cap : Nat) : Int) := ⟨(2 + cp1 % 60).toNat, by omega⟩
  obtain ⟨Q, hQ⟩ : ∃ Q : Nat, 1 + aq % 20 = ((Q : Nat) : Int) := ⟨(1 + aq % 20).toNat, by omega⟩
  have g9 := Int.emod_nonneg ap (b := ((Q + 1 : Nat) : Int)) (by omega)
  have g10 := Int.emod_lt_of_pos ap (b := ((Q + 1 : Nat) : Int)) (by omega)
  obtain ⟨P, hP⟩ : ∃ P : Nat, ap % ((Q + 1 : Nat) : Int) = ((P : Nat) : Int) := ⟨(ap % ((Q + 1 : Nat) : Int)).toNat, by omega⟩
  have q1 : 1 ≤ Q := by omega
  have q2 : Q ≤ 1000 := by omega
  have p2 : P ≤ Q := by omega
  obtain ⟨sz, hz⟩ : ∃ sz, 2 * k * (Lib.bitLen cap + 2) = sz := ⟨_, rfl⟩
  have rg : Rq w0 k cap sz := ⟨by omega, by omega, by omega, by omega, by omega, by omega, hz⟩
  obtain ⟨n, hn⟩ : ∃ n, min m 80 = n := ⟨_, rfl⟩
  have hGo := itGo_take_spec (w0 := 20) (by decide) (by decide) raw n (by omega) (by omega)
  have hIt := fun (w : World) (A : Option Addr) (c : Nat) (h : SL w A m c 2 (itL raw)) => nt_items raw m 20 hm hr (by decide) (by decide) w A c h
  rw [hn] at hIt
  obtain ⟨hl, hI, hbd, hlast⟩ := hGo
  have htl : (raw.take n).length = n := by rw [List.length_take]; omega
  rw [htl] at hl hbd
  generalize hLd : (itGo 20 (raw.take n)).1 = L at hIt hl hI hlast
  generalize (itGo 20 (raw.take n)).2 = now at hI hbd hlast
  have hnow : now ≤ 16777216 := by omega
  obtain ⟨nw, hnw⟩ : ∃ nw, nw = tk L n := ⟨_, rfl⟩
  have hnw0 : 0 ≤ nw ∧ nw ≤ 16777216 := by
    rw [hnw]; unfold tk
    split
    · omega
    · have := hI.tat (i := n - 1) (by omega); omega
  obtain ⟨⟨ad, es⟩, hgo⟩ : ∃ p, rnGo w0 k cap L = p := ⟨_, rfl⟩
  have hsp : RnS ad es nw w0 k cap sz n := by
    have := rn_spec hI hnow rg n (by omega)
    rw [List.take_of_length_le (by omega), hgo, ← hnw] at this
    exact this
  have hq := hsp.rq.qp rg hnw0.1 hnw0.2
  have hadl := hsp.len
  have hRun := fun (w : World) (A : Option Addr) (c : Nat) (h : SL w A n c 2 (itL L)) => qy_run L n now w0 k cap sz hl hI hnow rg ad es hgo w A c h
  rw [← hnw] at hRun
  obtain ⟨lv, hlv⟩ : ∃ lv, ad.filter (fun x => decide (nw - w0 < x.t)) = lv := ⟨_, rfl⟩
  have hlvl : lv.length ≤ 80 := by
    have := List.length_filter_le (fun x : It => decide (nw - w0 < x.t)) ad
    rw [hlv] at this; omega
  have hLive := fun (w : World) (A : Option Addr) (c : Nat) (h : SL w A ad.length c 2 (itL ad)) => nt_live ad ad.length nw w0 lv lv.length rfl (by omega) (fun x hx => (hsp.rq.its.tick x hx).2) hnw0.1 hnw0.2 rg.w1 (by have := rg.w2; omega) hlv rfl w A c h
  cases es with
  | nil =>
    have hn0 := hsp.rq.none
    rw [hlv] at hn0
    subst hn0
    exact f5_walk0 raw L ad [] m n kd ag c1 k1 cp1 p1 ch1 mx1 ap aq v w0 nw k cap P Q [] hm hl hw hk hcp hQ hP (by decide) hIt hRun hLive (fun w A c l h he => qw_quant0 [] 0 w0 k cap nw sz P Q hq q1 q2 p2 rfl w A c l h he) (fun w A c l h he => qw_rank0 [] 0 w0 k cap nw sz v hq rfl w A c l h he) (fun w A c h => qx_rank [] 0 v 0 rfl (by decide) rfl w A c h) rfl w A c h
  | cons y r =>
    obtain ⟨X, hX1, hX2, hX3, hX4⟩ := hsp.rq.out
    rw [hlv] at hX1
    have hvl : (vals lv).length = lv.length := vals_len lv
    have hlen := hX1.length_eq
    rw [List.length_append, hvl] at hlen
    obtain ⟨N, hN⟩ : ∃ N, (sureE (y :: r)).length = N := ⟨_, rfl⟩
    have hC := Nat.two_pow_pos y.lv
    have hk1 := rg.k1
    have hN0 : 0 < N := by
      rw [← hN]
      have : 2 * k * 1 ≤ 2 * k * 2 ^ y.lv := Nat.mul_le_mul_left _ hC
      omega
    have tr := tgt_rng (n := N) (p := P) (q := Q) q1 p2 hN0
    obtain ⟨u, hu⟩ : ∃ u, (sureE (y :: r))[tgt P N Q - 1]? = some u := ⟨_, List.getElem?_eq_getElem (by omega)⟩
    obtain ⟨r1, r2, r3⟩ := law_rank (K := k) v hX1 hX2 hX3 hvl
    have hlq := fun t ht => law_quant (K := k) (p := P) (q := Q) (t := t) hX1 hX2 hX3 hvl hN hX4 q1 p2 hu ht
    have hC2 : 2 ^ y.lv - 1 ≤ lv.length := Nat.le_trans (Nat.le_mul_of_pos_left _ hk1) r3
    have hrk := rk_le v (vals lv)
    have hrku := rk_le u (vals lv)
    rw [hvl] at hrk hrku
    have hlo := (hlq _ rfl).1
    obtain ⟨hi, hhi⟩ : ∃ hi, rk v (sureE (y :: r)) + (2 ^ y.lv - 1) = hi := ⟨_, rfl⟩
    refine f5_walk raw L ad lv m n kd ag c1 k1 cp1 p1 ch1 mx1 ap aq v w0 nw k cap P Q (y :: r) (rk v (sureE (y :: r))) hi (rk v (vals lv)) (rk u (vals lv)) (rb u (vals lv)) u hm hl hw hk hcp hQ hP hlvl hIt hRun hLive
      (fun w A c l h he => qw_quant (y :: r) (y :: r).length w0 k cap nw sz P Q u hq q1 q2 p2 (by omega) (by rw [hN]; exact hu) w A c l h he)
      (fun w A c l h he => qw_rank (y :: r) (y :: r).length w0 k cap nw sz v _ hi y hq rfl rfl hhi w A c l h he)
      (fun w A c h => qx_rank lv lv.length v _ rfl (by omega) rfl w A c h) (fun w A c h => qx_rank lv lv.length u _ rfl (by omega) rfl w A c h) (fun w A c h => qx_below lv lv.length u _ rfl (by omega) rfl w A c h)
      (by omega) r1 (by omega) (by omega) (by omega) ?_ hlo (by omega) (fun t ht => ⟨(hlq t ht).2.1, (hlq t ht).2.2⟩) w A c h
    have e1 : ((hi : Nat) : Int) - ((rk v (sureE (y :: r)) : Nat) : Int) = ((2 ^ y.lv - 1 : Nat) : Int) := by omega
    rw [e1, ← Int.natCast_mul]
    omega
end Go.Proofs.YtbageimconenlaaGreat
namespace Go.Proofs.YtbageimconenlaaGreat
open Go.RowKit Go.ChangeShapes Go.WideShapes Go.Deep Go.Joins En
set_option linter.unusedVariables false
section
variable {H : Type} {enc : TypeId × Value → H} {W : World} {base : Nat} {spare : Nat → Bool} {held : Bool}
theorem wf_r {z : Int} (h : (Lit.int .i64 z).wf = true) : -9223372036854775808 ≤ z ∧ z ≤ 9223372036854775807 := by
  have h1 : IntKind.i64.min ≤ z ∧ z ≤ 9223372036854775807 := by simpa [Lit.wf] using h
  exact ⟨h1.1, h1.2⟩
theorem arg_its {fuel : Nat} {v : Value} {x : DataW H × List MemPlace} (h : DataW.trod enc Tryz.prog W base spare held fuel 26 [v] = some x) :
    ∃ A n c l, v = .slice A n c ∧ SL W A n c 2 (itL l) ∧ l.length = n ∧ ∀ x ∈ l, R64 x := by
  rcases open_slice_pairs Tryz.underlying26 Tryz.underlying88 (by kernel_rfl) rfl rfl (by kernel_rfl) (by kernel_rfl) h with ⟨hcs, _⟩ | ⟨a, len, cap, m, n, V0, V1, D0, D1, P0, P1, hcs, _, hl, hm, hmm, _, hx⟩
  · simp at hcs
    exact ⟨none, 0, 0, [], hcs, ⟨⟨rfl, fun hn => absurd hn (Nat.lt_irrefl _)⟩, Nat.le_refl _, Nat.zero_le _⟩, rfl, fun x hx => absurd hx List.not_mem_nil⟩
  · simp at hcs
    have hlm : len ≤ m := by rw [hmm]; split <;> omega
    have hi : ∀ i, i < len → (∃ z1 z2 : Int, W.cell? (a.add (i * 2)) = some (.int .i64 z1) ∧ W.cell? (a.add (i * 2 + 1)) = some (.int .i64 z2) ∧ R64 ⟨z1, z2⟩) := by
      intro i hi
      obtain ⟨h1, h2, h3, h4⟩ := hx i (by omega)
      obtain ⟨z1, e1, _, w1⟩ := DataW.trod_int Tryz.underlying2 h3
      obtain ⟨z2, e2, _, w2⟩ := DataW.trod_int Tryz.underlying2 h4
      simp at e1 e2
      exact ⟨z1, z2, by rw [h1, e1], by rw [h2, e2], wf_r w1, wf_r w2⟩
    let ff : Nat → It := fun i => if hlt : i < len then ⟨(hi i hlt).choose, (hi i hlt).choose_spec.choose⟩ else ⟨0, 0⟩
    have hff : ∀ i, i < len → W.cell? (a.add (i * 2)) = some (.int .i64 (ff i).t) ∧ W.cell? (a.add (i * 2 + 1)) = some (.int .i64 (ff i).v) ∧ R64 (ff i) := fun i hlt => by
      have e : ff i = ⟨(hi i hlt).choose, (hi i hlt).choose_spec.choose⟩ := dif_pos hlt
      rw [e]
      exact (hi i hlt).choose_spec.choose_spec
    clear_value ff
    refine ⟨some a, len, cap, (List.range len).map ff, hcs, ⟨⟨by rw [itL_len]; simp, fun hn => ?_⟩, hl, hm⟩, by simp, fun x hx => ?_⟩
    · obtain ⟨b, o, s⟩ := a
      have h0 := (hff 0 hn).1
      obtain rfl : s = none := by simpa [Addr.add] using World.cell?_spot h0
      have hadd : ∀ j, (⟨b, o, none⟩ : Addr).add j = ⟨b, o + j, none⟩ := by
        intro j
        unfold Addr.add
        split
        · have hj : j = 0 := by assumption
          subst hj; rfl
        · rfl
      refine ⟨b, o, rfl, ?_, fun i u hu => ?_⟩
      · rw [hadd] at h0; exact cell_lt h0
      · have hil : i < len * 2 := by
          have := (List.getElem?_eq_some_iff.1 hu).1
          rw [itL_len] at this; simpa using this
        have hq : i / 2 < len := by omega
        have hg := hff (i / 2) hq
        have ha : (List.map ff (List.range len))[i / 2]? = some (ff (i / 2)) := by rw [List.getElem?_map, List.getElem?_range hq]; rfl
        have hc := itL_at _ (i / 2) (i % 2) _ ha (Nat.mod_lt _ (by decide))
        rw [show i / 2 * 2 + i % 2 = i by omega, hu] at hc
        rw [hadd, hadd] at hg
        rcases Nat.mod_two_eq_zero_or_one i with e | e
        · rw [e] at hc
          cases hc
          rw [show o + i = o + i / 2 * 2 by omega]; exact hg.1
        · rw [e] at hc
          cases hc
          rw [show o + i = o + (i / 2 * 2 + 1) by omega]; exact hg.2.1
    · obtain ⟨i, hi, rfl⟩ := List.mem_map.1 hx
      exact (hff i (by simpa using hi)).2.2
end
section
variable {H : Type} {enc : TypeId × Value → H} {P : Program} {w : World} {base : Nat} {spare : Nat → Bool} {held : Bool}
theorem open_agg8 {r : Reach} {b0 : Nat} {t : TypeId} {f0 f1 f2 f3 f4 f5 f6 f7 : Field} {v : Value} {d : DataW H} {p : List MemPlace} (hs : P.underlying t = some (.struct #[f0, f1, f2, f3, f4, f5, f6, f7])) (hone : oneCellFields P #[f0, f1, f2, f3, f4, f5, f6, f7] = true) (hC : P.cellsOf t = 8)
    (hv : Value.okWide P w r b0 t v) (h : DataW.Trod enc P w base spare held t v d p) :
    ∃ (v0 v1 v2 v3 v4 v5 v6 v7 : Value) (y0 y1 y2 y3 y4 y5 y6 y7 : DataW H × List MemPlace) (n : Nat), v = .agg #[v0, v1, v2, v3, v4, v5, v6, v7] ∧ DataW.trod enc P w base spare held n f0.type [v0] = some y0 ∧ DataW.trod enc P w base spare held n f1.type [v1] = some y1 ∧ DataW.trod enc P w base spare held n f2.type [v2] = some y2 ∧ DataW.trod enc P w base spare held n f3.type [v3] = some y3 ∧ DataW.trod enc P w base spare held n f4.type [v4] = some y4 ∧ DataW.trod enc P w base spare held n f5.type [v5] = some y5 ∧ DataW.trod enc P w base spare held n f6.type [v6] = some y6 ∧ DataW.trod enc P w base spare held n f7.type [v7] = some y7 := by
  obtain ⟨cs, rfl, hsz⟩ := okWide_struct hs hv
  obtain ⟨l⟩ := cs
  match l, hsz.trans hC with
  | [c0, c1, c2, c3, c4, c5, c6, c7], _ =>
    obtain ⟨fuel, hf⟩ := h
    obtain ⟨xs, n, _, hx, _, hlen, hg⟩ := DataW.trod_struct hs hf
    obtain ⟨o0, k0⟩ := hone_of hone 0 f0 rfl
    obtain ⟨o1, k1⟩ := hone_of hone 1 f1 rfl
    obtain ⟨o2, k2⟩ := hone_of hone 2 f2 rfl
    obtain ⟨o3, k3⟩ := hone_of hone 3 f3 rfl
    obtain ⟨o4, k4⟩ := hone_of hone 4 f4 rfl
    obtain ⟨o5, k5⟩ := hone_of hone 5 f5 rfl
    obtain ⟨o6, k6⟩ := hone_of hone 6 f6 rfl
    obtain ⟨o7, k7⟩ := hone_of hone 7 f7 rfl
    match xs, hlen with
    | [y0, y1, y2, y3, y4, y5, y6, y7], _ =>
      exact ⟨c0, c1, c2, c3, c4, c5, c6, c7, y0, y1, y2, y3, y4, y5, y6, y7, n, rfl, by simpa [Value.cells, o0, k0] using hg 0 f0 rfl, by simpa [Value.cells, o1, k1] using hg 1 f1 rfl, by simpa [Value.cells, o2, k2] using hg 2 f2 rfl, by simpa [Value.cells, o3, k3] using hg 3 f3 rfl, by simpa [Value.cells, o4, k4] using hg 4 f4 rfl, by simpa [Value.cells, o5, k5] using hg 5 f5 rfl, by simpa [Value.cells, o6, k6] using hg 6 f6 rfl, by simpa [Value.cells, o7, k7] using hg 7 f7 rfl⟩
set_option maxRecDepth 100000 in
theorem arg_cfg {r : Reach} {b0 : Nat} {v : Value} {d : DataW H} {p : List MemPlace} (hv : Value.okWide Tryz.prog w r b0 25 v) (h : DataW.Trod enc Tryz.prog w base spare held 25 v d p) :
    ∃ kind agg W k cap p ch mx : Int, v = .agg #[.int .i64 kind, .int .i64 agg, .int .i64 W, .int .i64 k, .int .i64 cap, .int .i64 p, .int .i64 ch, .int .i64 mx] := by
  obtain ⟨v0, v1, v2, v3, v4, v5, v6, v7, y0, y1, y2, y3, y4, y5, y6, y7, n, rfl, t0, t1, t2, t3, t4, t5, t6, t7⟩ := open_agg8 Tryz.underlying25 (by kernel_rfl) (by kernel_rfl) hv h
  obtain ⟨z0, e0, _, _⟩ := DataW.trod_int Tryz.underlying3 t0
  obtain ⟨z1, e1, _, _⟩ := DataW.trod_int Tryz.underlying3 t1
  obtain ⟨z2, e2, _, _⟩ := DataW.trod_int Tryz.underlying2 t2
  obtain ⟨z3, e3, _, _⟩ := DataW.trod_int Tryz.underlying3 t3
  obtain ⟨z4, e4, _, _⟩ := DataW.trod_int Tryz.underlying3 t4
  obtain ⟨z5, e5, _, _⟩ := DataW.trod_int Tryz.underlying3 t5
  obtain ⟨z6, e6, _, _⟩ := DataW.trod_int Tryz.underlying3 t6
  obtain ⟨z7, e7, _, _⟩ := DataW.trod_int Tryz.underlying2 t7
  simp at e0 e1 e2 e3 e4 e5 e6 e7
  subst e0 e1 e2 e3 e4 e5 e6 e7
  exact ⟨z0, z1, z2, z3, z4, z5, z6, z7, rfl⟩
end
theorem topQuantiles_walk (kd ag c1 k1 cp1 p1 ch1 mx1 : Int) (A0 : Option Addr) (n0 c0 : Nat) (l0 : List It) (ap aq v : Int) (w : World) (h : SL w A0 n0 c0 2 (itL l0)) (hl : l0.length = n0) (hr : ∀ x ∈ l0, R64 x) :
    Calls Tryz.prog 5 #[.agg #[.int .i64 kd, .int .i64 ag, .int .i64 c1, .int .i64 k1, .int .i64 cp1, .int .i64 p1, .int .i64 ch1, .int .i64 mx1], .slice A0 n0 c0, .int .i64 ap, .int .i64 aq, .int .i64 v] w (fun e w' => e = .returned (.bool true) ∧ Below w.heap.size w w') :=
  f5_core l0 n0 kd ag c1 k1 cp1 p1 ch1 mx1 ap aq v hl hr w A0 c0 h
end Go.Proofs.YtbageimconenlaaGreat
