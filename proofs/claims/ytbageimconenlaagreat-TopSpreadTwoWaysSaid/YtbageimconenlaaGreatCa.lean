/- A chain: made, tested, asked: the contracts. -/
import Derived.Test.YtbageimconenlaaGreatCp
import Derived.Test.YtbageimconenlaaGreatMa
namespace Go.Proofs.YtbageimconenlaaGreat
open Go.RowKit
set_option linter.unusedVariables false
def encL (p : Int × Int) : List Value := [.int .i64 p.1, .int .i64 p.2]
theorem encL_len (p : Int × Int) : (encL p).length = 2 := rfl
def lk (l : List (Int × Int)) : List Value := l.flatMap encL
theorem lk_len (l : List (Int × Int)) : (lk l).length = l.length * 2 := flatMap_len encL_len l
theorem lk_append (l m : List (Int × Int)) : lk (l ++ m) = lk l ++ lk m := by simp [lk]
theorem lk_one (l : List (Int × Int)) : ∀ u ∈ lk l, u.oneCell' = true := by
  intro u hu
  simp only [lk, List.mem_flatMap, encL, List.mem_cons, List.not_mem_nil, or_false] at hu
  obtain ⟨p, _, hu⟩ := hu
  rcases hu with rfl | rfl <;> rfl
theorem lk_drop (l : List (Int × Int)) : ∀ j, (lk l).drop (j * 2) = lk (l.drop j) := by
  induction l with
  | nil => intro j; simp [lk]
  | cons p l ih =>
    intro j
    cases j with
    | zero => simp
    | succ j =>
      rw [show (j + 1) * 2 = j * 2 + 2 by omega]
      show (encL p ++ lk l).drop (j * 2 + 2) = _
      rw [List.drop_append, show j * 2 + 2 - (encL p).length = j * 2 by rw [encL_len]; omega, ih j, List.drop_of_length_le (by rw [encL_len]; omega)]
      simp
theorem SlK.link {w : World} {B n : Nat} {A : Option Addr} {l : List (Int × Int)} (h : SlK w B A n 2 (lk l)) {j : Nat} (hj : j < n) :
    ∃ b o p q, A = some ⟨b, o, none⟩ ∧ b < B ∧ l[j]? = some (p, q) ∧ w.cell? ⟨b, o + j * 2, none⟩ = some (.int .i64 p) ∧ w.cell? ⟨b, o + j * 2 + 1, none⟩ = some (.int .i64 q) := by
  obtain ⟨b, o, e, hb, hc⟩ := h.at_ hj (by omega)
  have hl : l.length = n := by have := h.1; rw [lk_len] at this; omega
  have hg := List.getElem?_eq_getElem (l := l) (i := j) (by omega)
  have f0 := flatMap_at encL_len l j 0 _ hg (by omega)
  have f1 := flatMap_at encL_len l j 1 _ hg (by omega)
  refine ⟨b, o, l[j].1, l[j].2, e, hb, hg, ?_, ?_⟩
  · have := hc 0 (by omega); rw [show (lk l)[j * 2 + 0]? = _ from f0] at this; simpa [encL] using this
  · have := hc 1 (by omega); rw [show (lk l)[j * 2 + 1]? = _ from f1] at this; rw [Nat.add_assoc]; simpa [encL] using this
theorem SlK.llen {w : World} {B n : Nat} {A : Option Addr} {l : List (Int × Int)} (h : SlK w B A n 2 (lk l)) : l.length = n := by have := h.1; rw [lk_len] at this; omega
def RetB (v : Value) (w : World) (e : Ending) (w' : World) : Prop := e = .returned v ∧ Below w.heap.size w w'
set_option maxRecDepth 100000 in
theorem cnew_ok (W cap : Int) (w : World) (h1 : 1 ≤ W) (h2 : W ≤ 1048576) (h3 : 1 ≤ cap) (h4 : cap ≤ 64) : Calls Tryz.prog 92 #[.int .i64 W, .int .i64 cap] w (RetB (.tuple #[.agg #[.int .i64 W, .int .i64 cap, .int .i64 0, .int .i64 0, .slice none 0 0], .int .i64 0]) w) := by
  go_enter Tryz.func92, Tryz.ntmps92
  go_wp2
  refine bodyPost_ret (res186 rfl _ rfl (Blk.new w 186 #[.int .i64 W, .int .i64 cap, .int .i64 0, .int .i64 0, .slice none 0 0])) rfl ?_
  exact ⟨rfl, (Below.refl _ w).alloc (Nat.le_refl _) _⟩
set_option maxRecDepth 100000 in
set_option maxHeartbeats 1000000 in
theorem cval_zero (W cap : Int) (A : Option Addr) (k B : Nat) (c : Ch) (w : World) (hV : VCh W cap c) (hz : c.i = 0) : Calls Tryz.prog 171 #[.agg #[.int .i64 W, .int .i64 cap, .int .i64 c.i, .int .i64 c.nx, .slice A c.ls.length k]] w (RetB (.int .i64 0) w) := by
  obtain ⟨e1, e2⟩ := hV.zero hz
  have w1 := hV.w1
  have w2 := hV.w2
  have c1 := hV.c1
  have c2 := hV.c2
  rw [e1, e2, hz]
  simp only [List.length_nil]
  have hd : decide (cap < ((0 : Nat) : Int)) = false := by simp; omega
  clear hV e1 e2 hz
  go_enter Tryz.func171, Tryz.ntmps171
  go_wp2
  go_ret
  exact ⟨rfl, (Below.refl _ w).alloc (Nat.le_refl _) _⟩
set_option maxRecDepth 100000 in
set_option maxHeartbeats 2000000 in
theorem cval_pos (W cap : Int) (A : Option Addr) (k B : Nat) (c : Ch) (w : World) (hV : VCh W cap c) (hz : 0 < c.i) (hS : SlK w B A c.ls.length 2 (lk c.ls)) (hB : B ≤ w.heap.size) : Calls Tryz.prog 171 #[.agg #[.int .i64 W, .int .i64 cap, .int .i64 c.i, .int .i64 c.nx, .slice A c.ls.length k]] w (RetB (.int .i64 0) w) := by
  obtain ⟨lp, hlast⟩ := hV.last hz
  have HEL := hide hV.el
  have HUP := hide hV.up
  have hnx := hV.nxt lp hlast
  have w1 := hV.w1
  have w2 := hV.w2
  have c1 := hV.c1
  have c2 := hV.c2
  have i1 := hV.i1
  have hlen := hV.len
  have hlw := hV.len_w
  have hpos : 0 < c.ls.length := List.length_pos_iff.2 (hV.pos hz)
  clear hV
  obtain ⟨ci, cx, ls⟩ := c
  simp only [] at *
  generalize hn : ls.length = n at *
  have HN := hide hn
  have HLAST := hide hlast
  have hn64 : n ≤ 64 := by omega
  have z1 : (ci == 0) = false := by simp; omega
  have z2 : ((n : Int) == 0) = false := by simp; omega
  have d1 : decide (cap < (n : Int)) = false := by simp; omega
  have d2 : decide (ci < 0) = false := by simp; omega
  have d3 : decide (1099511627776 < ci) = false := by simp; omega
  have qX : Blk (w.alloc (.cells #[.int .i64 W, .int .i64 cap, .int .i64 ci, .int .i64 cx, .slice A n k] 186)) w.heap.size 186 #[.int .i64 W, .int .i64 cap, .int .i64 ci, .int .i64 cx, .slice A n k] := Blk.new _ _ _
  have qS := hS.alloc hB (.cells #[.int .i64 W, .int .i64 cap, .int .i64 ci, .int .i64 cx, .slice A n k] 186)
  have qB : Below w.heap.size w (w.alloc (.cells #[.int .i64 W, .int .i64 cap, .int .i64 ci, .int .i64 cx, .slice A n k] 186)) := (Below.refl _ w).alloc (Nat.le_refl _) _
  clear hS hlast hn
  go_enter Tryz.func171, Tryz.ntmps171
  go_upto_region 1 with (fail)
  generalize (w.alloc (.cells #[.int .i64 W, .int .i64 cap, .int .i64 ci, .int .i64 cx, .slice A n k] 186)) = w0 at *
  have X0 := hide qX
  have S0 := hide qS
  have B0 := hide qB
  have g0 := qX.cell 0
  have g1 := qX.cell 1
  have g2 := qX.cell 2
  have g3 := qX.cell 3
  have g4 := qX.cell 4
  clear qX qS qB
  go_upto_region 9 with (fail)
  clear z1 z2 d1 d2 d3
  go_wp2
  clear g0 g1 g2 g3 g4
  go_loopw [60] (fun i wr => ∃ j : Nat, j ≤ n ∧ i = .int .i64 j ∧ Below w0.heap.size w0 wr) (fun i _ => n - (intOf i).toNat)
  case atStart => exact ⟨0, Nat.zero_le _, rfl, Below.refl _ _⟩
  case round =>
    obtain ⟨j, hj, rfl, hb⟩ := hrel
    have X1 := hide (X0.out.below hb X0.out.lt)
    have S1 := hide (S0.out.below (hb.mono (show B ≤ w0.heap.size by have := X0.out.lt; omega)))
    have HB := hide hb
    have hsz := hb.size
    clear hb
    have g0 := X1.out.cell 0
    have g1 := X1.out.cell 1
    have g2 := X1.out.cell 2
    have g3 := X1.out.cell 3
    have g4 := X1.out.cell 4
    by_cases hlt : j < n
    · obtain ⟨b, o, p, q, rfl, hbB, hpq, k0, k1⟩ := S1.out.link hlt
      have hel := HEL.out j (p, q) hpq
      simp only [] at hel
      obtain ⟨e1, e2, e3, e4, e5⟩ := hel
      have d1 : decide (q < -4096) = false := by simp; omega
      have d2 : decide (4096 < q) = false := by simp; omega
      have d3 : decide (p < 1) = false := by simp; omega
      have d4 : decide (ci < p) = false := by simp; omega
      have d5 : decide (p ≤ ci - W) = false := by simp; omega
      have hjlt : (j : Int) < (n : Int) := by omega
      cases j with
      | zero =>
        clear hpq
        simp only [Nat.zero_mul, Nat.add_zero] at k0 k1
        go_upto_region 12 with (fail)
        have X2 := hide (X1.out.alloc (.cells #[.int .i64 p, .int .i64 q] 285))
        have Y2 := hide (Blk.new wr 285 #[.int .i64 p, .int .i64 q])
        have HB2 := hide (Bl.alloc' HB.out (.cells #[.int .i64 p, .int .i64 q] 285))
        clear g0 g1 g2 g3 g4 k0 k1
        generalize (wr.alloc (.cells #[.int .i64 p, .int .i64 q] 285)) = w2 at *
        have g0 := X2.out.cell 0
        have g2 := X2.out.cell 2
        have g4 := X2.out.cell 4
        have y0 := Y2.out.cell 0
        have y1 := Y2.out.cell 1
        go_upto_region 14 with (fail)
        go_quiet (fail)
        go_wp2
        go_roundw
        case rel => exact ⟨1, by omega, by first | rfl | go_num, by first | exact HB2.out | exact below_drewN HB2.out _⟩
        case measure => simp [intOf]; omega
      | succ j =>
        obtain ⟨b', o', p', q', hA', hbB', hpq', k0', k1'⟩ := S1.out.link (show j < n by omega)
        injection hA' with hA'
        injection hA' with hb1 ho1
        subst hb1 ho1
        have hup := HUP.out j (p', q') (p, q) hpq' hpq
        simp only [] at hup
        have d6 : decide (p ≤ p') = false := by simp; omega
        have d7 : decide (p' + W < p) = false := by simp; omega
        have hbp := HEL.out j (p', q') hpq'
        simp only [] at hbp
        obtain ⟨f1, f2, f3, f4, f5⟩ := hbp
        clear hpq hpq' k1'
        go_upto_region 12 with (fail)
        have X2 := hide (X1.out.alloc (.cells #[.int .i64 p, .int .i64 q] 285))
        have Y2 := hide (Blk.new wr 285 #[.int .i64 p, .int .i64 q])
        have HB2 := hide (Bl.alloc' HB.out (.cells #[.int .i64 p, .int .i64 q] 285))
        have kk := hide (show (wr.alloc (.cells #[.int .i64 p, .int .i64 q] 285)).cell? ⟨b, o + j * 2, none⟩ = some (.int .i64 p') from (below_cell ((Below.refl wr.heap.size wr).alloc (Nat.le_refl _) _) (cell_lt k0')).trans k0')
        clear k0'
        clear g0 g1 g2 g3 g4 k0 k1
        generalize (wr.alloc (.cells #[.int .i64 p, .int .i64 q] 285)) = w2 at *
        have g0 := X2.out.cell 0
        have g2 := X2.out.cell 2
        have g4 := X2.out.cell 4
        have y0 := Y2.out.cell 0
        have y1 := Y2.out.cell 1
        have k0' := kk.out
        go_upto_region 14 with (fail)
        go_quiet (fail)
        go_wp2
        go_roundw
        case rel => exact ⟨j + 1 + 1, by omega, by first | rfl | go_num, by first | exact HB2.out | exact below_drewN HB2.out _⟩
        case measure => simp [intOf]; omega
    · have hje : j = n := by omega
      subst hje
      obtain ⟨m, rfl⟩ : ∃ m, j = m + 1 := ⟨j - 1, by omega⟩
      obtain ⟨b, o, p, q, rfl, hbB, hpq, k0, k1⟩ := S1.out.link (show m < m + 1 by omega)
      have hlp := HLAST.out
      rw [show m + 1 - 1 = m by omega, hpq] at hlp
      injection hlp with hlp
      subst hlp
      simp only [] at hnx
      have hbp := HEL.out m (p, q) hpq
      simp only [] at hbp
      obtain ⟨f1, f2, f3, f4, f5⟩ := hbp
      have d1 : decide (cx ≤ ci) = false := by simp; omega
      have d2 : decide (p + W < cx) = false := by simp; omega
      clear hpq k1
      go_upto_region 17 with (fail)
      go_quiet (fail)
      go_wp2
      go_ret
      exact ⟨rfl, by first | exact B0.out.trans (HB.out.mono B0.out.size) | exact below_drewN (B0.out.trans (HB.out.mono B0.out.size)) _⟩
def HCh (w : World) (B : Nat) (W cap : Int) (v : Value) (c : Ch) : Prop := ∃ (A : Option Addr) (k : Nat), v = .agg #[.int .i64 W, .int .i64 cap, .int .i64 c.i, .int .i64 c.nx, .slice A c.ls.length k] ∧ SlK w B A c.ls.length 2 (lk c.ls)
theorem HCh.below {w w' : World} {B : Nat} {W cap : Int} {v : Value} {c : Ch} (h : HCh w B W cap v c) (hb : Below B w w') : HCh w' B W cap v c := by
  obtain ⟨A, k, e, h⟩ := h
  exact ⟨A, k, e, h.below hb⟩
theorem HCh.more {w : World} {B B' : Nat} {W cap : Int} {v : Value} {c : Ch} (h : HCh w B W cap v c) (hb : B ≤ B') : HCh w B' W cap v c := by
  obtain ⟨A, k, e, h⟩ := h
  exact ⟨A, k, e, h.more hb⟩
theorem cval_any {W cap : Int} {v : Value} {B : Nat} {c : Ch} {w : World} (h : HCh w B W cap v c) (hV : VCh W cap c) (hB : B ≤ w.heap.size) : Calls Tryz.prog 171 #[v] w (RetB (.int .i64 0) w) := by
  obtain ⟨A, k, rfl, hS⟩ := h
  by_cases hz : c.i = 0
  · exact cval_zero W cap A k B c w hV hz
  · exact cval_pos W cap A k B c w hV (by have := hV.i0; omega) hS hB
def AskR (x : Int) (w : World) (e : Ending) (w' : World) : Prop := e = .returned (.tuple #[.int .i64 x, .int .i64 0]) ∧ Below w.heap.size w w'
set_option maxRecDepth 100000 in
set_option maxHeartbeats 1000000 in
theorem cask_any {W cap : Int} {v : Value} {B : Nat} {c : Ch} {w : World} (h : HCh w B W cap v c) (hV : VCh W cap c) (hB : B ≤ w.heap.size) {p : Int × Int} (hp : c.ls[0]? = some p) : Calls Tryz.prog 143 #[v] w (AskR p.2 w) := by
  obtain ⟨A, k, rfl, hS⟩ := h
  have C171 := hide (cval_any (v := .agg #[.int .i64 W, .int .i64 cap, .int .i64 c.i, .int .i64 c.nx, .slice A c.ls.length k]) (W := W) (cap := cap) (c := c) (B := B) (w := w.alloc (.cells #[.int .i64 W, .int .i64 cap, .int .i64 c.i, .int .i64 c.nx, .slice A c.ls.length k] 186)) ⟨A, k, rfl, hS.alloc hB _⟩ hV (by simp; omega))
  have qX : Blk (w.alloc (.cells #[.int .i64 W, .int .i64 cap, .int .i64 c.i, .int .i64 c.nx, .slice A c.ls.length k] 186)) w.heap.size 186 #[.int .i64 W, .int .i64 cap, .int .i64 c.i, .int .i64 c.nx, .slice A c.ls.length k] := Blk.new _ _ _
  have qS := hS.alloc hB (.cells #[.int .i64 W, .int .i64 cap, .int .i64 c.i, .int .i64 c.nx, .slice A c.ls.length k] 186)
  have qB : Below w.heap.size w (w.alloc (.cells #[.int .i64 W, .int .i64 cap, .int .i64 c.i, .int .i64 c.nx, .slice A c.ls.length k] 186)) := (Below.refl _ w).alloc (Nat.le_refl _) _
  have hlt : 0 < c.ls.length := (List.getElem?_eq_some_iff.1 hp).1
  have hn64 : c.ls.length ≤ 64 := by have := hV.len; have := hV.c2; omega
  have HP := hide hp
  clear hS hV hp
  unfold RetB at C171
  generalize hn : c.ls.length = n at *
  have z2 : ((n : Int) == 0) = false := by simp; omega
  clear hn
  go_enter Tryz.func143, Tryz.ntmps143
  go_upto_region 1 with (fail)
  generalize (w.alloc (.cells #[.int .i64 W, .int .i64 cap, .int .i64 c.i, .int .i64 c.nx, .slice A n k] 186)) = w0 at *
  have X0 := hide qX
  have S0 := hide qS
  have B0 := hide qB
  clear qX qS qB
  go_wp2_with (refine wpList_load186 rfl (.tmp 1) rfl w.heap.size 186 rfl X0.out ?_)
  refine C171.out.mono ?_
  rintro e w1 ⟨rfl, hb⟩
  have X1 := hide (X0.out.below hb X0.out.lt)
  have S1 := hide (S0.out.below (hb.mono (show B ≤ w0.heap.size by have := X0.out.lt; omega)))
  have B1 := hide (B0.out.trans (hb.mono B0.out.size))
  obtain ⟨b, o, x, y, rfl, hbB, hxy, k0, k1⟩ := S1.out.link hlt
  have hpe := HP.out.symm.trans hxy
  injection hpe with hpe
  have HPE := hide hpe
  simp only [Nat.zero_mul, Nat.add_zero] at k0 k1
  have g4 := X1.out.cell 4
  clear hb hxy hpe k0
  go_wp2
  go_ret2
  exact ⟨by rw [HPE.out]; rfl, B1.out⟩
end Go.Proofs.YtbageimconenlaaGreat
