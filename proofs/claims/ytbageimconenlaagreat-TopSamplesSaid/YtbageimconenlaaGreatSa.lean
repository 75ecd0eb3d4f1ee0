/- Several chains as a value; tested, asked: the contracts. -/
import Derived.Test.YtbageimconenlaaGreatCd
namespace Go.Proofs.YtbageimconenlaaGreat
open Go.RowKit
set_option linter.unusedVariables false
def encC (W cap : Int) (p : (Ch × Option Addr × Nat)) : List Value := [.int .i64 W, .int .i64 cap, .int .i64 p.1.i, .int .i64 p.1.nx, .slice p.2.1 p.1.ls.length p.2.2]
theorem encC_len (W cap : Int) (p : (Ch × Option Addr × Nat)) : (encC W cap p).length = 5 := rfl
def ck (W cap : Int) (ps : List (Ch × Option Addr × Nat)) : List Value := ps.flatMap (encC W cap)
theorem ck_len (W cap : Int) (ps : List (Ch × Option Addr × Nat)) : (ck W cap ps).length = ps.length * 5 := flatMap_len (encC_len W cap) ps
theorem ck_append (W cap : Int) (l m : List (Ch × Option Addr × Nat)) : ck W cap (l ++ m) = ck W cap l ++ ck W cap m := by simp [ck]
theorem ck_one (W cap : Int) (l : List (Ch × Option Addr × Nat)) : ∀ u ∈ ck W cap l, u.oneCell' = true := by
  intro u hu
  simp only [ck, List.mem_flatMap, encC, List.mem_cons, List.not_mem_nil, or_false] at hu
  obtain ⟨p, _, hu⟩ := hu
  rcases hu with rfl | rfl | rfl | rfl | rfl <;> rfl
theorem SlK.chain {w : World} {B n : Nat} {A : Option Addr} {W cap : Int} {ps : List (Ch × Option Addr × Nat)} (h : SlK w B A n 5 (ck W cap ps)) {j : Nat} {p : (Ch × Option Addr × Nat)} (hp : ps[j]? = some p) :
    ∃ b o, A = some ⟨b, o, none⟩ ∧ b < B ∧ w.cell? ⟨b, o + j * 5, none⟩ = some (.int .i64 W) ∧ w.cell? ⟨b, o + j * 5 + 1, none⟩ = some (.int .i64 cap) ∧ w.cell? ⟨b, o + j * 5 + 2, none⟩ = some (.int .i64 p.1.i) ∧ w.cell? ⟨b, o + j * 5 + 3, none⟩ = some (.int .i64 p.1.nx) ∧ w.cell? ⟨b, o + j * 5 + 4, none⟩ = some (.slice p.2.1 p.1.ls.length p.2.2) := by
  have hl : ps.length = n := by have := h.1; rw [ck_len] at this; omega
  have hj : j < n := by have := (List.getElem?_eq_some_iff.1 hp).1; omega
  obtain ⟨b, o, e, hb, hc⟩ := h.at_ hj (by omega)
  refine ⟨b, o, e, hb, ?_, ?_, ?_, ?_, ?_⟩
  · have := hc 0 (by omega); rw [show (ck W cap ps)[j * 5 + 0]? = _ from flatMap_at (encC_len W cap) ps j 0 p hp (by omega)] at this; simpa [encC] using this
  · have := hc 1 (by omega); rw [show (ck W cap ps)[j * 5 + 1]? = _ from flatMap_at (encC_len W cap) ps j 1 p hp (by omega)] at this; rw [Nat.add_assoc]; simpa [encC] using this
  · have := hc 2 (by omega); rw [show (ck W cap ps)[j * 5 + 2]? = _ from flatMap_at (encC_len W cap) ps j 2 p hp (by omega)] at this; rw [Nat.add_assoc]; simpa [encC] using this
  · have := hc 3 (by omega); rw [show (ck W cap ps)[j * 5 + 3]? = _ from flatMap_at (encC_len W cap) ps j 3 p hp (by omega)] at this; rw [Nat.add_assoc]; simpa [encC] using this
  · have := hc 4 (by omega); rw [show (ck W cap ps)[j * 5 + 4]? = _ from flatMap_at (encC_len W cap) ps j 4 p hp (by omega)] at this; rw [Nat.add_assoc]; simpa [encC] using this
/-- the slice A n k holds the chains cs, in blocks below B -/
structure HCs (w : World) (B : Nat) (W cap : Int) (A : Option Addr) (n : Nat) (cs : List Ch) (ps : List (Ch × Option Addr × Nat)) : Prop where
  fst : ps.map (·.1) = cs
  row : SlK w B A n 5 (ck W cap ps)
  lnk : ∀ p ∈ ps, SlK w B p.2.1 p.1.ls.length 2 (lk p.1.ls)
section
variable {w w' : World} {B B' n : Nat} {W cap : Int} {A : Option Addr} {cs : List Ch} {ps : List (Ch × Option Addr × Nat)}
theorem HCs.below (h : HCs w B W cap A n cs ps) (hb : Below B w w') : HCs w' B W cap A n cs ps := ⟨h.fst, h.row.below hb, fun p hp => (h.lnk p hp).below hb⟩
theorem HCs.more (h : HCs w B W cap A n cs ps) (hb : B ≤ B') : HCs w B' W cap A n cs ps := ⟨h.fst, h.row.more hb, fun p hp => (h.lnk p hp).more hb⟩
theorem HCs.len (h : HCs w B W cap A n cs ps) : cs.length = n ∧ ps.length = n := by
  have h1 : ps.length = n := by have := h.row.1; rw [ck_len] at this; omega
  exact ⟨by rw [← h.fst, List.length_map, h1], h1⟩
theorem HCs.at_ (h : HCs w B W cap A n cs ps) {j : Nat} (hj : j < n) : ∃ (c : Ch) (A' : Option Addr) (k' : Nat), ps[j]? = some (c, A', k') ∧ cs[j]? = some c ∧ HCh w B W cap (.agg #[.int .i64 W, .int .i64 cap, .int .i64 c.i, .int .i64 c.nx, .slice A' c.ls.length k']) c := by
  have hl := h.len.2
  have hg := List.getElem?_eq_getElem (l := ps) (i := j) (by omega)
  generalize ps[j]'(by omega) = p at hg
  obtain ⟨c, A', k'⟩ := p
  refine ⟨c, A', k', hg, ?_, A', k', rfl, h.lnk _ (List.mem_of_getElem? hg)⟩
  rw [← h.fst, List.getElem?_map, hg]; rfl
end
def HSm (w : World) (B : Nat) (W cap : Int) (v : Value) (cs : List Ch) : Prop := ∃ (A : Option Addr) (k : Nat) (ps : List (Ch × Option Addr × Nat)), v = .agg #[.slice A cs.length k] ∧ HCs w B W cap A cs.length cs ps
theorem HSm.below {w w' : World} {B : Nat} {W cap : Int} {v : Value} {cs : List Ch} (h : HSm w B W cap v cs) (hb : Below B w w') : HSm w' B W cap v cs := by
  obtain ⟨A, k, ps, e, h⟩ := h
  exact ⟨A, k, ps, e, h.below hb⟩
theorem HSm.more {w : World} {B B' : Nat} {W cap : Int} {v : Value} {cs : List Ch} (h : HSm w B W cap v cs) (hb : B ≤ B') : HSm w B' W cap v cs := by
  obtain ⟨A, k, ps, e, h⟩ := h
  exact ⟨A, k, ps, e, h.more hb⟩
/-- valid chains of one width and one number of items -/
structure VCs (W cap : Int) (I : Int) (cs : List Ch) : Prop where
  n1 : 1 ≤ cs.length
  n2 : cs.length ≤ 16
  v : ∀ c ∈ cs, VCh W cap c ∧ c.i = I
set_option maxRecDepth 100000 in
set_option maxHeartbeats 2000000 in
theorem sval_any {W cap I : Int} {v : Value} {B : Nat} {cs : List Ch} {w : World} (h : HSm w B W cap v cs) (hV : VCs W cap I cs) (hB : B ≤ w.heap.size) : Calls Tryz.prog 96 #[v] w (RetB (.int .i64 0) w) := by
  obtain ⟨A, k, ps, rfl, hC⟩ := h
  have hn1 := hV.n1
  have hn2 := hV.n2
  have HV := hide hV.v
  generalize hn : cs.length = n at *
  have qX : Blk (w.alloc (.cells #[.slice A n k] 48)) w.heap.size 48 #[.slice A n k] := Blk.new _ _ _
  have qC := hC.below ((Below.refl B w).alloc hB (.cells #[.slice A n k] 48))
  have qB : Below w.heap.size w (w.alloc (.cells #[.slice A n k] 48)) := Bl.alloc' (Below.refl _ w) _
  have hl0 : w.heap.size < (w.alloc (.cells #[.slice A n k] 48)).heap.size := by simp
  have d1 : decide ((n : Int) < 1) = false := by simp; omega
  have d2 : decide ((16 : Int) < (n : Int)) = false := by simp; omega
  clear hC hV hn
  go_enter Tryz.func96, Tryz.ntmps96
  go_upto_region 1 with (fail)
  generalize (w.alloc (.cells #[.slice A n k] 48)) = w0 at *
  have X0 := hide qX
  have C0 := hide qC
  have B0 := hide qB
  have x0 : w0.cell? ⟨w.heap.size, 0, none⟩ = some (.slice A n k) := qX.cell 0
  clear qX qC qB
  go_wp2
  clear d1 d2 x0
  go_loopw [19] (fun i wr => ∃ j : Nat, j ≤ n ∧ i = .int .i64 j ∧ Below w0.heap.size w0 wr) (fun i _ => n - (intOf i).toNat)
  case atStart => exact ⟨0, Nat.zero_le _, rfl, Below.refl _ _⟩
  case round =>
    obtain ⟨j, hj, rfl, hb⟩ := hrel
    have X1 := hide (X0.out.below hb X0.out.lt)
    have C1 := hide (C0.out.below (hb.mono (show B ≤ w0.heap.size by omega)))
    have HB := hide hb
    have hsz := hb.size
    have hlr : w.heap.size < wr.heap.size := by omega
    clear hb
    have x0 : wr.cell? ⟨w.heap.size, 0, none⟩ = some (.slice A n k) := X1.out.cell 0
    by_cases hlt : j < n
    · have hjlt : (j : Int) < (n : Int) := by omega
      obtain ⟨c, Ac, kc, hpc, hc, hHc⟩ := C1.out.at_ hlt
      obtain ⟨d, Ad, kd, hpd, hd, hHd⟩ := C1.out.at_ (show 0 < n by omega)
      obtain ⟨hVc, hIc⟩ := HV.out c (List.mem_of_getElem? hc)
      obtain ⟨hVd, hId⟩ := HV.out d (List.mem_of_getElem? hd)
      obtain ⟨b, o, rfl, hbB, c0, c1, c2, c3, c4⟩ := C1.out.row.chain hpc
      obtain ⟨b', o', hA', hbB', d0, d1, d2, d3, d4⟩ := C1.out.row.chain hpd
      injection hA' with hA'
      injection hA' with hb1 ho1
      subst hb1 ho1
      simp only [Nat.zero_mul, Nat.add_zero] at d0 d1 d2 d3 d4
      simp only [hIc] at c2 hHc
      simp only [hId] at d2
      have C171 := hide (fun (w1 : World) (hb : Below wr.heap.size wr w1) => cval_any (hHc.below (hb.mono (show B ≤ wr.heap.size by omega))) hVc (by have := hb.size; omega))
      clear hpc hc hHc hpd hd hHd hVc hIc hVd hId
      have hlb : b < wr.heap.size := by omega
      have Y1 := hide (show Blk ((wr.alloc (.cells #[.int .i64 W, .int .i64 cap, .int .i64 I, .int .i64 c.nx, .slice Ac c.ls.length kc] 186)).alloc (.cells #[.int .i64 W, .int .i64 cap, .int .i64 I, .int .i64 d.nx, .slice Ad d.ls.length kd] 186)) wr.heap.size 186 #[.int .i64 W, .int .i64 cap, .int .i64 I, .int .i64 c.nx, .slice Ac c.ls.length kc] from (Blk.new _ _ _).alloc _)
      have Z1 := hide (show Blk ((wr.alloc (.cells #[.int .i64 W, .int .i64 cap, .int .i64 I, .int .i64 c.nx, .slice Ac c.ls.length kc] 186)).alloc (.cells #[.int .i64 W, .int .i64 cap, .int .i64 I, .int .i64 d.nx, .slice Ad d.ls.length kd] 186)) (wr.heap.size + 1) 186 #[.int .i64 W, .int .i64 cap, .int .i64 I, .int .i64 d.nx, .slice Ad d.ls.length kd] from Blk.new_at (by simp) _ _)
      have B2 := hide (show Below wr.heap.size wr ((wr.alloc (.cells #[.int .i64 W, .int .i64 cap, .int .i64 I, .int .i64 c.nx, .slice Ac c.ls.length kc] 186)).alloc (.cells #[.int .i64 W, .int .i64 cap, .int .i64 I, .int .i64 d.nx, .slice Ad d.ls.length kd] 186)) from Bl.alloc' (Bl.alloc' (Below.refl _ wr) _) _)
      generalize c.ls.length = nc at *
      generalize d.ls.length = nd at *
      go_upto_region 7 with (fail)
      generalize ((wr.alloc (.cells #[.int .i64 W, .int .i64 cap, .int .i64 I, .int .i64 c.nx, .slice Ac nc kc] 186)).alloc (.cells #[.int .i64 W, .int .i64 cap, .int .i64 I, .int .i64 d.nx, .slice Ad nd kd] 186)) = w2 at *
      clear c0 c1 c2 c3 c4 d0 d1 d2 d3 d4 x0
      go_wp2_with (refine wpList_load186 rfl (.tmp 4) rfl wr.heap.size 186 rfl Y1.out ?_)
      refine (C171.out w2 B2.out).mono ?_
      rintro e w3 ⟨rfl, hb3⟩
      have Y2 := hide (Y1.out.below hb3 Y1.out.lt)
      have Z2 := hide (Z1.out.below hb3 Z1.out.lt)
      have B3 := hide (B2.out.trans (hb3.mono B2.out.size))
      clear hb3 Y1 Z1 B2
      have y0 : w3.cell? ⟨wr.heap.size, 0, none⟩ = some (.int .i64 W) := Y2.out.cell 0
      have y1 : w3.cell? ⟨wr.heap.size, 1, none⟩ = some (.int .i64 cap) := Y2.out.cell 1
      have y2 : w3.cell? ⟨wr.heap.size, 2, none⟩ = some (.int .i64 I) := Y2.out.cell 2
      have z0 : w3.cell? ⟨wr.heap.size + 1, 0, none⟩ = some (.int .i64 W) := Z2.out.cell 0
      have z1 : w3.cell? ⟨wr.heap.size + 1, 1, none⟩ = some (.int .i64 cap) := Z2.out.cell 1
      have z2 : w3.cell? ⟨wr.heap.size + 1, 2, none⟩ = some (.int .i64 I) := Z2.out.cell 2
      go_wp2
      go_roundw
      case rel => exact ⟨j + 1, by omega, by first | rfl | go_num, HB.out.trans (B3.out.mono hsz)⟩
      case measure => simp [intOf]; omega
    · have hje : j = n := by omega
      subst hje
      have hge : ¬ (j : Int) < (j : Int) := by omega
      go_wp2
      go_ret
      exact ⟨rfl, B0.out.trans (HB.out.mono B0.out.size)⟩
theorem info2 : (Tryz.prog.info? 2).map (fun i => (i.zero, i.size, i.bytes)) = some (some (.int .i64 0), 1, 8) := by kernel_rfl
def headV (c : Ch) : Int := match c.ls with | [] => 0 | p :: _ => p.2
def AnsL (xs : List Int) (w : World) (e : Ending) (w' : World) : Prop := ∃ (A : Option Addr) (k : Nat), e = .returned (.tuple #[.slice A xs.length k, .int .i64 0]) ∧ OwnK w' w.heap.size 2 1 (.slice A xs.length k) xs.length (xs.map (Value.int .i64)) ∧ Below w.heap.size w w'
set_option maxRecDepth 100000 in
set_option maxHeartbeats 2000000 in
theorem sask_any {W cap I : Int} {v : Value} {B : Nat} {cs : List Ch} {w : World} (h : HSm w B W cap v cs) (hV : VCs W cap I cs) (hI : 0 < I) (hB : B ≤ w.heap.size) : Calls Tryz.prog 61 #[v] w (AnsL (cs.map headV) w) := by
  obtain ⟨i0, hi0, hz0, hz1, hz2⟩ := info_parts info2
  obtain ⟨A, k, ps, rfl, hC⟩ := h
  have hn1 := hV.n1
  have hn2 := hV.n2
  have HV := hide hV.v
  have C96 := hide (fun (w1 : World) (hb : Below w.heap.size w w1) => sval_any (v := .agg #[.slice A cs.length k]) ⟨A, k, ps, rfl, hC.below (hb.mono hB)⟩ hV (show B ≤ w1.heap.size by have := hb.size; omega))
  generalize hn : cs.length = n at *
  have HN := hide hn
  have qX : Blk (w.alloc (.cells #[.slice A n k] 48)) w.heap.size 48 #[.slice A n k] := Blk.new _ _ _
  have qC := hC.below ((Below.refl B w).alloc hB (.cells #[.slice A n k] 48))
  have qB : Below w.heap.size w (w.alloc (.cells #[.slice A n k] 48)) := Bl.alloc' (Below.refl _ w) _
  have hl0 : w.heap.size < (w.alloc (.cells #[.slice A n k] 48)).heap.size := by simp
  clear hC hV hn
  unfold RetB at C96
  go_enter Tryz.func61, Tryz.ntmps61
  go_upto_region 1 with (fail)
  generalize (w.alloc (.cells #[.slice A n k] 48)) = w0 at *
  have X0 := hide qX
  have C0 := hide qC
  have B0 := hide qB
  clear qX qC qB
  go_wp2_with (refine wpList_load48 rfl (.tmp 1) rfl w.heap.size 48 rfl X0.out ?_)
  refine (C96.out w0 B0.out).mono ?_
  rintro e w1 ⟨rfl, hb⟩
  have X1 := hide (X0.out.below hb X0.out.lt)
  have C1 := hide (C0.out.below (hb.mono (show B ≤ w0.heap.size by omega)))
  have B1 := hide (B0.out.trans (hb.mono B0.out.size))
  have hs1 := hb.size
  clear hb X0 C0 B0
  have x0 : w1.cell? ⟨w.heap.size, 0, none⟩ = some (.slice A n k) := X1.out.cell 0
  go_wp2
  clear x0
  go_loopw [5, 18] (fun v i wr => ∃ (j : Nat) (A1 : Option Addr) (k1 : Nat), j ≤ n ∧ i = .int .i64 j ∧ v = .slice A1 j k1 ∧ OwnK wr w1.heap.size 2 1 (.slice A1 j k1) j (((cs.map headV).take j).map (Value.int .i64)) ∧ Below w1.heap.size w1 wr) (fun _ i _ => n - (intOf i).toNat)
  case atStart => exact ⟨0, none, 0, Nat.zero_le _, rfl, rfl, OwnK.nil_ _ _ _ _, Below.refl _ _⟩
  case round =>
    obtain ⟨j, A1, k1, hj, rfl, rfl, hO, hb⟩ := hrel
    have C2 := hide (C1.out.below (hb.mono (show B ≤ w1.heap.size by omega)))
    have O2 := hide hO
    have HB := hide hb
    have hsz := hb.size
    clear hb hO
    by_cases hlt : j < n
    · have hjlt : (j : Int) < (n : Int) := by omega
      obtain ⟨c, Ac, kc, hpc, hc, hHc⟩ := C2.out.at_ hlt
      obtain ⟨hVc, hIc⟩ := HV.out c (List.mem_of_getElem? hc)
      obtain ⟨b, o, rfl, hbB, c0, c1, c2, c3, c4⟩ := C2.out.row.chain hpc
      have hne := hVc.pos (by omega)
      obtain ⟨p, hp, hhd⟩ : ∃ p, c.ls[0]? = some p ∧ headV c = p.2 := by
        cases hls : c.ls with
        | nil => exact absurd hls hne
        | cons p t => exact ⟨p, rfl, by unfold headV; rw [hls]⟩
      have hhj : (cs.map headV)[j]? = some p.2 := by rw [List.getElem?_map, hc, ← hhd]; rfl
      have HT := hide (take_snoc hhj)
      have C143 := hide (fun (w2 : World) (hb : Below wr.heap.size wr w2) => cask_any (hHc.below (hb.mono (show B ≤ wr.heap.size by omega))) hVc (by have := hb.size; omega) hp)
      clear hpc hc hHc hVc hne hp hhd hhj hIc
      have hlb : b < wr.heap.size := by omega
      simp only [] at c2 c3 c4
      generalize c.i = ci at *
      generalize c.nx = cx at *
      generalize c.ls.length = nc at *
      generalize p.2 = pv at *
      unfold AskR at C143
      have Y1 := hide (Blk.new wr 186 #[.int .i64 W, .int .i64 cap, .int .i64 ci, .int .i64 cx, .slice Ac nc kc])
      have B2 := hide (show Below wr.heap.size wr (wr.alloc (.cells #[.int .i64 W, .int .i64 cap, .int .i64 ci, .int .i64 cx, .slice Ac nc kc] 186)) from Bl.alloc' (Below.refl _ wr) _)
      have O3 := hide (O2.out.alloc (.cells #[.int .i64 W, .int .i64 cap, .int .i64 ci, .int .i64 cx, .slice Ac nc kc] 186))
      go_upto_region 8 with (fail)
      generalize (wr.alloc (.cells #[.int .i64 W, .int .i64 cap, .int .i64 ci, .int .i64 cx, .slice Ac nc kc] 186)) = w2 at *
      clear c0 c1 c2 c3 c4 O2
      go_wp2_with (refine wpList_load186 rfl (.tmp 7) rfl wr.heap.size 186 rfl Y1.out ?_)
      refine (C143.out w2 B2.out).mono ?_
      rintro e w3 ⟨rfl, hb3⟩
      have B3 := hide (B2.out.trans (hb3.mono B2.out.size))
      have O4 := hide (O3.out.below hb3)
      have hs3 := B3.out.size
      clear hb3 Y1 B2 O3
      go_wp2_with (at_builtin; refine wpList_appendK _ rfl (.tmp 30) (.tmp 32) 22 rfl w1.heap.size 2 i0 (.int .i64 0) 1 8 Tryz.underlying22 hi0 hz0 hz1 hz2 rfl (by decide) (.slice A1 j k1) j (((cs.map headV).take j).map (Value.int .i64)) rfl (O4.out.alloc _) _ (some ⟨w3.heap.size, 0, none⟩) 1 1 [.int .i64 pv] rfl (SlK.one (l := [.int .i64 pv]) rfl rfl) (by intro u hu; simp at hu; subst hu; rfl) (j + 1) rfl (by simp only [maxLen]; omega) (by omega) (by simp; omega) ?_; intro A5 k5 w5 hown5 hg5)
      have B5 := hide (show Below w1.heap.size w1 w5 from ((HB.out.trans (B3.out.mono hsz)).alloc (by omega) _).grown hg5 (by simp; omega) (fun q hq => (O4.out.lt q hq).1))
      have O5 := hide hown5
      clear hown5 hg5 O4
      go_roundw
      case rel => exact ⟨j + 1, A5, k5, by omega, by first | rfl | go_num, rfl, by rw [HT.out, List.map_append]; exact O5.out, B5.out⟩
      case measure => simp [intOf]; omega
    · have hje : j = n := by omega
      subst hje
      have hge : ¬ (j : Int) < (j : Int) := by omega
      go_wp2
      go_ret2
      have hle : (cs.map headV).length = j := by rw [List.length_map, HN.out]
      have ho := O2.out
      rw [List.take_of_length_le (by omega)] at ho
      refine ⟨A1, k1, by rw [hle]; rfl, by rw [hle]; exact ho.mono (by have := X1.out.lt; omega), B1.out.trans (HB.out.mono B1.out.size)⟩
end Go.Proofs.YtbageimconenlaaGreat
