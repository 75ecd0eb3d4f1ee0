/- Lists of marks: valid ones. -/
import Derived.Test.YtbageimconenlaaGreatNL
namespace Go.Proofs.YtbageimconenlaaGreat
open Go.RowKit En
set_option linter.unusedVariables false
/-- a mark of a valid list -/
structure MV1 (sq cap now least : Int) (m : Mk) : Prop where
  a1 : 1 ≤ m.seq
  a2 : m.seq ≤ sq
  a3 : m.n = sq - m.seq + 1
  a4 : m.n ≤ cap
  a5 : 0 ≤ m.t
  a6 : m.t ≤ now
  a7 : least ≤ m.mn
  a8 : m.mx ≤ 4096
  a9 : m.mn ≤ m.mx
  ok : MkOK m
/-- a mark and the one behind it -/
structure MV2 (o m : Mk) : Prop where
  b1 : o.seq < m.seq
  b2 : o.t ≤ m.t
  b3 : o.mn ≤ m.mn
  b4 : m.mx ≤ o.mx
  b5 : Fits (o.n - m.n) o.mn o.mx (o.s - m.s) (o.q - m.q)
structure MVL (l : List Mk) (sq cap now w0 least : Int) : Prop where
  s0 : 0 ≤ sq
  s1 : sq ≤ 1099511627776
  one : ∀ (i : Nat) (m : Mk), l[i]? = some m → MV1 sq cap now least m
  two : ∀ (i : Nat) (o m : Mk), l[i]? = some o → l[i + 1]? = some m → MV2 o m
  live : ∀ (i : Nat) (m : Mk), l[i]? = some m → 0 < i ∨ l.length = 1 → now - w0 < m.t
  last : ∀ m : Mk, l[l.length - 1]? = some m → m.seq = sq ∧ m.mn = m.s ∧ m.mx = m.s ∧ m.q = m.s * m.s
set_option maxRecDepth 100000 in
set_option maxHeartbeats 4000000 in
theorem nm_valid (l : List Mk) (n : Nat) (sq cap now w0 least : Int) (hl : l.length = n) (hn : n ≤ 1000) (n1 : 0 ≤ now) (n2 : now ≤ 16777216) (n3 : 1 ≤ w0) (n4 : w0 ≤ 1048576) (hv : MVL l sq cap now w0 least) (w : World) (A : Option Addr) (c : Nat) (h : SL w A n c 7 (mkL l)) :
    Calls Tryz.prog 178 #[.slice A n c, .int .i64 sq, .int .i64 cap, .int .i64 now, .int .i64 w0, .int .i64 least] w (fun e w' => e = .returned (.bool true) ∧ Below w.heap.size w w') := by
  have s0 := hv.s0
  have s1 := hv.s1
  have e1 : decide (sq < 0) = false := by simp only [decide_eq_false_iff_not]; omega
  have e2 : decide (sq > 1099511627776) = false := by simp only [decide_eq_false_iff_not]; omega
  refine fun_sliceF tblOK mixedP Tryz.func178 rfl (fun s => [s, .int .i64 sq, .int .i64 cap, .int .i64 now, .int .i64 w0, .int .i64 least]) n 7 (mkL l) h (by decide) (allFC_mk l) [.slice (some ⟨0, 0, none⟩) n 0, .int .i64 sq, .int .i64 cap, .int .i64 now, .int .i64 w0, .int .i64 least] rfl (fun _ => rfl) 205 [(0, .slice (some ⟨0, 0, none⟩) n 0), (1, .int .i64 sq), (2, .int .i64 cap), (3, .int .i64 now), (4, .int .i64 w0), (5, .int .i64 least)] rfl rfl (by kernel_rfl) rfl rfl _ rfl ?_
  repeat' (first
    | rw [e1]
    | rw [e2]
    | refine AR.auto rfl ?_
    | refine AR.nil ?_
    | refine KF.mk ?_
    | refine KT.mk (by kernel_rfl) ?_
    | refine SQ.normal ?_
    | refine AC.seq ?_
    | refine AC.regF ?_
    | refine AC.regT ?_
    | refine AC.condT rfl ?_
    | refine AC.condF rfl ?_
    | refine AC.block ?_
    | refine BQ.normal ?_
    | refine BQ.ret ?_
    | refine BQ.here ?_
    | refine BQ.there rfl ?_
    | refine SQ.ret ?_
    | refine SQ.exit ?_
    | refine AC.ret ?_
    | refine AC.exit ?_
    | refine AC.skip ?_
    | (refine AR.split rfl (fun h => ?_) (fun h => ?_) <;> rw [h])
    | (refine AC.cond rfl (fun h => ?_) (fun h => ?_) <;> rw [h])
    | refine FQ.ret rfl rfl ?_
    | refine FQ.normal rfl rfl ?_)
  refine AC.loop (fun m st => ∃ i : Nat, m = n - i ∧ i ≤ n ∧ st = ⟨[(25, .int .i64 (i : Nat)), (24, .int .i64 (n : Nat)), (23, .slice (some ⟨0, 0, none⟩) n 0), (5, .int .i64 least), (4, .int .i64 w0), (3, .int .i64 now), (2, .int .i64 cap), (1, .int .i64 sq), (0, .slice (some ⟨0, 0, none⟩) n 0)], [(0, .view 7 (mkL l))], [0], 205⟩) n _ ?_ ⟨0, rfl, Nat.zero_le _, rfl⟩ ?_
  · exact Ren.mv (tabF []) rfl (fun k hk => by match k, hk with | 0, _ => exact ⟨rfl, rfl⟩) ⟨⟨rfl, rfl⟩, ⟨rfl, rfl⟩, ⟨rfl, rfl⟩, ⟨rfl, rfl⟩, ⟨rfl, rfl⟩, ⟨rfl, rfl⟩, ⟨rfl, rfl⟩, ⟨rfl, rfl⟩, ⟨rfl, rfl⟩, trivial⟩ ⟨⟨by rw [mv_mkv]; rfl, rfl, allNC_mk _ _⟩, trivial⟩ rfl
  intro m st hi
  obtain ⟨i, rfl, hin, rfl⟩ := hi
  by_cases hlt : i < n
  · have hd : decide ((i : Int) < (n : Int)) = true := by simp only [decide_eq_true_eq]; omega
    obtain ⟨m, hm⟩ : ∃ m, l[i]? = some m := ⟨l[i]'(by omega), List.getElem?_eq_getElem (by omega)⟩
    have g := hv.one i m hm
    obtain ⟨a1, a2, a3, a4, a5, a6, a7, a8, a9, _⟩ := g
    have g := hv.one i m hm
    obtain ⟨b1, b2, b3, b4, b5, b6, b7, b8, b9, b10, b11, b12⟩ := g.ok.bd
    have d0 : decide (m.seq < 1) = false := by simp only [decide_eq_false_iff_not]; omega
    have d1 : decide (m.seq > sq) = false := by simp only [decide_eq_false_iff_not]; omega
    have d2 : decide (m.n > cap) = false := by simp only [decide_eq_false_iff_not]; omega
    have d3 : decide (m.t < 0) = false := by simp only [decide_eq_false_iff_not]; omega
    have d4 : decide (m.t > now) = false := by simp only [decide_eq_false_iff_not]; omega
    have d5 : decide (m.mn < least) = false := by simp only [decide_eq_false_iff_not]; omega
    have d6 : decide (m.mx > 4096) = false := by simp only [decide_eq_false_iff_not]; omega
    have d7 : decide (m.mn > m.mx) = false := by simp only [decide_eq_false_iff_not]; omega
    have w1 : IntKind.i64.wrap (sq - m.seq) = sq - m.seq := IntWalk.i64_in _ (by omega)
    have w2 : IntKind.i64.wrap (sq - m.seq + 1) = m.n := by rw [IntWalk.i64_in _ (by omega)]; omega
    have w3 : (m.n != m.n) = false := by simp
    have w4 : IntKind.i64.wrap ((i : Int) + 1) = ((i + 1 : Nat) : Int) := by rw [IntWalk.i64_in _ (by omega)]; rfl
    by_cases hi0 : i = 0
    · have z0 : decide ((i : Int) > 0) = false := by simp only [decide_eq_false_iff_not]; omega
      have z1 : ((i : Int) == 0) = true := by rw [beq_iff_eq]; omega
      by_cases hn1 : n = 1
      · have z2 : ((n : Int) == 1) = true := by rw [beq_iff_eq]; omega
        have z3 : decide (now - w0 < m.t) = true := by simp only [decide_eq_true_eq]; exact hv.live i m hm (.inr (by omega))
        repeat' (first
          | rw [hd]
          | rw [d0]
          | rw [d1]
          | rw [d2]
          | rw [d3]
          | rw [d4]
          | rw [d5]
          | rw [d6]
          | rw [d7]
          | rw [w1]
          | rw [w2]
          | rw [w3]
          | rw [w4]
          | rw [z0]
          | rw [z1]
          | rw [z2]
          | rw [z3]
          | refine AR.auto rfl ?_
          | refine AR.man (okm_idx (A0 := 0) (i := i) rfl rfl rfl rfl (nonE_mkv 7 (by omega)) hlt) rfl rfl rfl ?_
          | refine AR.man (okm_ld (m := m) rfl rfl rfl (fun jj u hu => by rw [Nat.zero_add, show (Box.view 7 (mkL l)).cells = mkL l from rfl, mkL_at l i jj m hm (by have := (List.getElem?_eq_some_iff.1 hu).1; simpa [mkC] using this)]; exact hu)) rfl rfl rfl ?_
          | refine AR.man (ok_nm_fits (n := m.n) (lo := m.mn) (hi := m.mx) (sm := m.s) (q := m.q) g.ok.ft rfl rfl rfl) rfl rfl rfl ?_
          | refine AR.man (ok_nc_live (now := now) (w0 := w0) (t := m.t) n1 n2 n3 n4 g.a5 g.a6 rfl rfl rfl) rfl rfl rfl ?_
          | refine AR.nil ?_
          | refine KF.mk ?_
          | refine KT.mk (by kernel_rfl) ?_
          | refine SQ.normal ?_
          | refine AC.seq ?_
          | refine AC.regF ?_
          | refine AC.regT ?_
          | refine AC.condT rfl ?_
          | refine AC.condF rfl ?_
          | refine AC.block ?_
          | refine BQ.normal ?_
          | refine BQ.ret ?_
          | refine BQ.here ?_
          | refine BQ.there rfl ?_
          | refine SQ.ret ?_
          | refine SQ.exit ?_
          | refine AC.ret ?_
          | refine AC.exit ?_
          | refine AC.skip ?_
          | (refine AR.split rfl (fun h => ?_) (fun h => ?_) <;> rw [h])
          | (refine AC.cond rfl (fun h => ?_) (fun h => ?_) <;> rw [h])
          | refine FQ.ret rfl rfl ?_
          | refine FQ.normal rfl rfl ?_)
        refine ⟨n - (i + 1), _, by omega, ?_, i + 1, rfl, by omega, rfl⟩
        exact Ren.mv (tabF []) rfl (fun k hk => by match k, hk with | 0, _ => exact ⟨rfl, rfl⟩) ⟨⟨rfl, rfl⟩, ⟨rfl, rfl⟩, ⟨rfl, rfl⟩, ⟨rfl, rfl⟩, ⟨rfl, rfl⟩, ⟨rfl, rfl⟩, ⟨rfl, rfl⟩, ⟨rfl, rfl⟩, ⟨rfl, rfl⟩, trivial⟩ ⟨⟨by rw [mv_mkv]; rfl, rfl, allNC_mk _ _⟩, trivial⟩ rfl
      · have z2 : ((n : Int) == 1) = false := by rw [beq_eq_false_iff_ne]; omega
        repeat' (first
          | rw [hd]
          | rw [d0]
          | rw [d1]
          | rw [d2]
          | rw [d3]
          | rw [d4]
          | rw [d5]
          | rw [d6]
          | rw [d7]
          | rw [w1]
          | rw [w2]
          | rw [w3]
          | rw [w4]
          | rw [z0]
          | rw [z1]
          | rw [z2]
          | refine AR.auto rfl ?_
          | refine AR.man (okm_idx (A0 := 0) (i := i) rfl rfl rfl rfl (nonE_mkv 7 (by omega)) hlt) rfl rfl rfl ?_
          | refine AR.man (okm_ld (m := m) rfl rfl rfl (fun jj u hu => by rw [Nat.zero_add, show (Box.view 7 (mkL l)).cells = mkL l from rfl, mkL_at l i jj m hm (by have := (List.getElem?_eq_some_iff.1 hu).1; simpa [mkC] using this)]; exact hu)) rfl rfl rfl ?_
          | refine AR.man (ok_nm_fits (n := m.n) (lo := m.mn) (hi := m.mx) (sm := m.s) (q := m.q) g.ok.ft rfl rfl rfl) rfl rfl rfl ?_
          | refine AR.man (ok_nc_live (now := now) (w0 := w0) (t := m.t) n1 n2 n3 n4 g.a5 g.a6 rfl rfl rfl) rfl rfl rfl ?_
          | refine AR.nil ?_
          | refine KF.mk ?_
          | refine KT.mk (by kernel_rfl) ?_
          | refine SQ.normal ?_
          | refine AC.seq ?_
          | refine AC.regF ?_
          | refine AC.regT ?_
          | refine AC.condT rfl ?_
          | refine AC.condF rfl ?_
          | refine AC.block ?_
          | refine BQ.normal ?_
          | refine BQ.ret ?_
          | refine BQ.here ?_
          | refine BQ.there rfl ?_
          | refine SQ.ret ?_
          | refine SQ.exit ?_
          | refine AC.ret ?_
          | refine AC.exit ?_
          | refine AC.skip ?_
          | (refine AR.split rfl (fun h => ?_) (fun h => ?_) <;> rw [h])
          | (refine AC.cond rfl (fun h => ?_) (fun h => ?_) <;> rw [h])
          | refine FQ.ret rfl rfl ?_
          | refine FQ.normal rfl rfl ?_)
        refine ⟨n - (i + 1), _, by omega, ?_, i + 1, rfl, by omega, rfl⟩
        exact Ren.mv (tabF []) rfl (fun k hk => by match k, hk with | 0, _ => exact ⟨rfl, rfl⟩) ⟨⟨rfl, rfl⟩, ⟨rfl, rfl⟩, ⟨rfl, rfl⟩, ⟨rfl, rfl⟩, ⟨rfl, rfl⟩, ⟨rfl, rfl⟩, ⟨rfl, rfl⟩, ⟨rfl, rfl⟩, ⟨rfl, rfl⟩, trivial⟩ ⟨⟨by rw [mv_mkv]; rfl, rfl, allNC_mk _ _⟩, trivial⟩ rfl
    · have z0 : decide ((i : Int) > 0) = true := by simp only [decide_eq_true_eq]; omega
      have z1 : ((i : Int) == 0) = false := by rw [beq_eq_false_iff_ne]; omega
      have z3 : decide (now - w0 < m.t) = true := by simp only [decide_eq_true_eq]; exact hv.live i m hm (.inl (by omega))
      obtain ⟨o, ho⟩ : ∃ o, l[i - 1]? = some o := ⟨l[i - 1]'(by omega), List.getElem?_eq_getElem (by omega)⟩
      obtain ⟨k1, k2, k3, k4, k5⟩ := hv.two (i - 1) o m ho (by rw [show i - 1 + 1 = i by omega]; exact hm)
      obtain ⟨c1, c2, c3, c4, c5, c6, c7, c8, c9, c10, c11, c12⟩ := (hv.one (i - 1) o ho).ok.bd
      have f0 : decide (o.seq ≥ m.seq) = false := by simp only [decide_eq_false_iff_not]; omega
      have f1 : decide (o.t > m.t) = false := by simp only [decide_eq_false_iff_not]; omega
      have f2 : decide (o.mn > m.mn) = false := by simp only [decide_eq_false_iff_not]; omega
      have f3 : decide (o.mx < m.mx) = false := by simp only [decide_eq_false_iff_not]; omega
      have u0 : IntKind.i64.wrap (o.n - m.n) = o.n - m.n := IntWalk.i64_in _ (by omega)
      have u1 : IntKind.i64.wrap (o.s - m.s) = o.s - m.s := IntWalk.i64_in _ (by omega)
      have u2 : IntKind.i64.wrap (o.q - m.q) = o.q - m.q := IntWalk.i64_in _ (by omega)
      have w5 : IntKind.i64.wrap ((i : Int) - 1) = ((i - 1 : Nat) : Int) := by rw [IntWalk.i64_in _ (by omega)]; omega
      repeat' (first
        | rw [hd]
        | rw [d0]
        | rw [d1]
        | rw [d2]
        | rw [d3]
        | rw [d4]
        | rw [d5]
        | rw [d6]
        | rw [d7]
        | rw [w1]
        | rw [w2]
        | rw [w3]
        | rw [w4]
        | rw [z0]
        | rw [z1]
        | rw [z3]
        | rw [f0]
        | rw [f1]
        | rw [f2]
        | rw [f3]
        | rw [u0]
        | rw [u1]
        | rw [u2]
        | rw [w5]
        | refine AR.auto rfl ?_
        | refine AR.man (okm_idx (A0 := 0) (i := i) rfl rfl rfl rfl (nonE_mkv 7 (by omega)) hlt) rfl rfl rfl ?_
        | refine AR.man (okm_ld (m := m) rfl rfl rfl (fun jj u hu => by rw [Nat.zero_add, show (Box.view 7 (mkL l)).cells = mkL l from rfl, mkL_at l i jj m hm (by have := (List.getElem?_eq_some_iff.1 hu).1; simpa [mkC] using this)]; exact hu)) rfl rfl rfl ?_
        | refine AR.man (ok_nm_fits (n := m.n) (lo := m.mn) (hi := m.mx) (sm := m.s) (q := m.q) g.ok.ft rfl rfl rfl) rfl rfl rfl ?_
        | refine AR.man (ok_nc_live (now := now) (w0 := w0) (t := m.t) n1 n2 n3 n4 g.a5 g.a6 rfl rfl rfl) rfl rfl rfl ?_
        | refine AR.man (okm_idx (A0 := 0) (i := i - 1) rfl rfl rfl rfl (nonE_mkv 7 (by omega)) (by omega)) rfl rfl rfl ?_
        | refine AR.man (okm_ld (m := o) rfl rfl rfl (fun jj u hu => by rw [Nat.zero_add, show (Box.view 7 (mkL l)).cells = mkL l from rfl, mkL_at l (i - 1) jj o ho (by have := (List.getElem?_eq_some_iff.1 hu).1; simpa [mkC] using this)]; exact hu)) rfl rfl rfl ?_
        | refine AR.man (ok_nm_fits (n := o.n - m.n) (lo := o.mn) (hi := o.mx) (sm := o.s - m.s) (q := o.q - m.q) k5 rfl rfl rfl) rfl rfl rfl ?_
        | refine AR.nil ?_
        | refine KF.mk ?_
        | refine KT.mk (by kernel_rfl) ?_
        | refine SQ.normal ?_
        | refine AC.seq ?_
        | refine AC.regF ?_
        | refine AC.regT ?_
        | refine AC.condT rfl ?_
        | refine AC.condF rfl ?_
        | refine AC.block ?_
        | refine BQ.normal ?_
        | refine BQ.ret ?_
        | refine BQ.here ?_
        | refine BQ.there rfl ?_
        | refine SQ.ret ?_
        | refine SQ.exit ?_
        | refine AC.ret ?_
        | refine AC.exit ?_
        | refine AC.skip ?_
        | (refine AR.split rfl (fun h => ?_) (fun h => ?_) <;> rw [h])
        | (refine AC.cond rfl (fun h => ?_) (fun h => ?_) <;> rw [h])
        | refine FQ.ret rfl rfl ?_
        | refine FQ.normal rfl rfl ?_)
      refine ⟨n - (i + 1), _, by omega, ?_, i + 1, rfl, by omega, rfl⟩
      exact Ren.mv (tabF []) rfl (fun k hk => by match k, hk with | 0, _ => exact ⟨rfl, rfl⟩) ⟨⟨rfl, rfl⟩, ⟨rfl, rfl⟩, ⟨rfl, rfl⟩, ⟨rfl, rfl⟩, ⟨rfl, rfl⟩, ⟨rfl, rfl⟩, ⟨rfl, rfl⟩, ⟨rfl, rfl⟩, ⟨rfl, rfl⟩, trivial⟩ ⟨⟨by rw [mv_mkv]; rfl, rfl, allNC_mk _ _⟩, trivial⟩ rfl
  · obtain rfl : i = n := by omega
    have hd : decide ((i : Int) < (i : Int)) = false := by simp
    by_cases h0 : i = 0
    · have z1 : ((i : Int) == 0) = true := by rw [beq_iff_eq]; omega
      repeat' (first
        | rw [hd]
        | rw [z1]
        | refine AR.auto rfl ?_
        | refine AR.nil ?_
        | refine KF.mk ?_
        | refine KT.mk (by kernel_rfl) ?_
        | refine SQ.normal ?_
        | refine AC.seq ?_
        | refine AC.regF ?_
        | refine AC.regT ?_
        | refine AC.condT rfl ?_
        | refine AC.condF rfl ?_
        | refine AC.block ?_
        | refine BQ.normal ?_
        | refine BQ.ret ?_
        | refine BQ.here ?_
        | refine BQ.there rfl ?_
        | refine SQ.ret ?_
        | refine SQ.exit ?_
        | refine AC.ret ?_
        | refine AC.exit ?_
        | refine AC.skip ?_
        | (refine AR.split rfl (fun h => ?_) (fun h => ?_) <;> rw [h])
        | (refine AC.cond rfl (fun h => ?_) (fun h => ?_) <;> rw [h])
        | refine FQ.ret rfl rfl ?_
        | refine FQ.normal rfl rfl ?_)
      rfl
    · have z1 : ((i : Int) == 0) = false := by rw [beq_eq_false_iff_ne]; omega
      have w5 : IntKind.i64.wrap ((i : Int) - 1) = ((i - 1 : Nat) : Int) := by rw [IntWalk.i64_in _ (by omega)]; omega
      obtain ⟨m, hm⟩ : ∃ m, l[i - 1]? = some m := ⟨l[i - 1]'(by omega), List.getElem?_eq_getElem (by omega)⟩
      obtain ⟨q1, q2, q3, q4⟩ := hv.last m (by rw [hl]; exact hm)
      obtain ⟨c1, c2, c3, c4, c5, c6, c7, c8, c9, c10, c11, c12⟩ := (hv.one (i - 1) m hm).ok.bd
      have y1 : (m.seq == sq) = true := by rw [beq_iff_eq]; exact q1
      have y2 : (m.mn == m.s) = true := by rw [beq_iff_eq]; exact q2
      have y3 : (m.mx == m.s) = true := by rw [beq_iff_eq]; exact q3
      have y4 : IntKind.i64.wrap (m.s * m.s) = m.s * m.s := IntWalk.i64_in _ (by omega)
      have y5 : (m.q == m.s * m.s) = true := by rw [beq_iff_eq]; exact q4
      repeat' (first
        | rw [hd]
        | rw [z1]
        | rw [w5]
        | rw [y1]
        | rw [y2]
        | rw [y3]
        | rw [y4]
        | rw [y5]
        | refine AR.auto rfl ?_
        | refine AR.man (okm_idx (A0 := 0) (i := i - 1) rfl rfl rfl rfl (nonE_mkv 7 (by omega)) (by omega)) rfl rfl rfl ?_
        | refine AR.man (okm_ld (m := m) rfl rfl rfl (fun jj u hu => by rw [Nat.zero_add, show (Box.view 7 (mkL l)).cells = mkL l from rfl, mkL_at l (i - 1) jj m hm (by have := (List.getElem?_eq_some_iff.1 hu).1; simpa [mkC] using this)]; exact hu)) rfl rfl rfl ?_
        | refine AR.nil ?_
        | refine KF.mk ?_
        | refine KT.mk (by kernel_rfl) ?_
        | refine SQ.normal ?_
        | refine AC.seq ?_
        | refine AC.regF ?_
        | refine AC.regT ?_
        | refine AC.condT rfl ?_
        | refine AC.condF rfl ?_
        | refine AC.block ?_
        | refine BQ.normal ?_
        | refine BQ.ret ?_
        | refine BQ.here ?_
        | refine BQ.there rfl ?_
        | refine SQ.ret ?_
        | refine SQ.exit ?_
        | refine AC.ret ?_
        | refine AC.exit ?_
        | refine AC.skip ?_
        | (refine AR.split rfl (fun h => ?_) (fun h => ?_) <;> rw [h])
        | (refine AC.cond rfl (fun h => ?_) (fun h => ?_) <;> rw [h])
        | refine FQ.ret rfl rfl ?_
        | refine FQ.normal rfl rfl ?_)
      rfl
end Go.Proofs.YtbageimconenlaaGreat
