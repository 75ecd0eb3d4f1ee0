/- Several chains: added to, made: the contracts. -/
import Derived.Test.YtbageimconenlaaGreatSb
namespace Go.Proofs.YtbageimconenlaaGreat
open Go.RowKit
set_option linter.unusedVariables false
/-- chains in rows of the call's own -/
structure OCs (w : World) (base : Nat) (W cap : Int) (A : Option Addr) (n k : Nat) (ps : List (Ch × Option Addr × Nat)) : Prop where
  row : OwnK w base 186 5 (.slice A n k) n (ck W cap ps)
  lnk : ∀ p ∈ ps, OwnK w base 285 2 (.slice p.2.1 p.1.ls.length p.2.2) p.1.ls.length (lk p.1.ls)
  far : ∀ p ∈ ps, ∀ q, (Value.slice p.2.1 p.1.ls.length p.2.2).ownBlock = some q → (Value.slice A n k).ownBlock ≠ some q
theorem OCs.hcs {w : World} {base n k : Nat} {W cap : Int} {A : Option Addr} {ps : List (Ch × Option Addr × Nat)} (h : OCs w base W cap A n k ps) : HCs w w.heap.size W cap A n (ps.map (·.1)) ps := ⟨rfl, h.row.sl, fun p hp => (h.lnk p hp).sl⟩
theorem OCs.len {w : World} {base n k : Nat} {W cap : Int} {A : Option Addr} {ps : List (Ch × Option Addr × Nat)} (h : OCs w base W cap A n k ps) : ps.length = n := by have := h.row.1; rw [ck_len] at this; omega
theorem OCs.keep {w w' : World} {base n k : Nat} {W cap : Int} {A : Option Addr} {ps : List (Ch × Option Addr × Nat)} (h : OCs w base W cap A n k ps) (hk : ∀ q, base ≤ q → q < w.heap.size → w'.heap[q]? = w.heap[q]?) : OCs w' base W cap A n k ps :=
  ⟨h.row.keep fun q hq => hk q (h.row.lt q hq).1 (h.row.lt q hq).2, fun p hp => (h.lnk p hp).keep fun q hq => hk q ((h.lnk p hp).lt q hq).1 ((h.lnk p hp).lt q hq).2, h.far⟩
theorem OCs.nil_ (w : World) (base : Nat) (W cap : Int) : OCs w base W cap none 0 0 [] := ⟨OwnK.nil_ _ _ _ _, fun _ hp => absurd hp (by simp), fun _ hp => absurd hp (by simp)⟩
/-- one chain more -/
theorem OCs.snoc {w w' : World} {base n k : Nat} {W cap : Int} {A A' : Option Addr} {k' : Nat} {ps : List (Ch × Option Addr × Nat)} {p : (Ch × Option Addr × Nat)} (h : OCs w base W cap A n k ps) (hp : OwnK w base 285 2 (.slice p.2.1 p.1.ls.length p.2.2) p.1.ls.length (lk p.1.ls))
    (hf : ∀ q, (Value.slice p.2.1 p.1.ls.length p.2.2).ownBlock = some q → (Value.slice A n k).ownBlock ≠ some q) (hrow : OwnK w' base 186 5 (.slice A' (n + 1) k') (n + 1) (ck W cap ps ++ encC W cap p)) (hg : w.grownBy w' (Value.slice A n k).ownBlock)
    (hat : (Value.slice A' (n + 1) k').ownBlock = (Value.slice A n k).ownBlock ∨ (Value.slice A' (n + 1) k').ownBlock = some w.heap.size) : OCs w' base W cap A' (n + 1) k' (ps ++ [p]) := by
  have hall : ∀ x ∈ ps ++ [p], OwnK w base 285 2 (.slice x.2.1 x.1.ls.length x.2.2) x.1.ls.length (lk x.1.ls) ∧ ∀ q, (Value.slice x.2.1 x.1.ls.length x.2.2).ownBlock = some q → (Value.slice A n k).ownBlock ≠ some q := fun x hx => by
    rcases List.mem_append.1 hx with hx | hx
    · exact ⟨h.lnk x hx, h.far x hx⟩
    · obtain rfl : x = p := by simpa using hx
      exact ⟨hp, hf⟩
  refine ⟨by rw [ck_append]; simpa [ck] using hrow, fun x hx => (hall x hx).1.grown hg (fun q h1 h2 => (hall x hx).2 q h1 h2), fun x hx q hq => ?_⟩
  rcases hat with e | e
  · rw [e]; exact (hall x hx).2 q hq
  · rw [e]
    intro e2
    injection e2 with e2
    have := ((hall x hx).1.lt q hq).2
    omega
theorem OCs.mono {w : World} {base base' n k : Nat} {W cap : Int} {A : Option Addr} {ps : List (Ch × Option Addr × Nat)} (h : OCs w base W cap A n k ps) (hb : base' ≤ base) : OCs w base' W cap A n k ps := ⟨h.row.mono hb, fun p hp => (h.lnk p hp).mono hb, h.far⟩
/-- the chains of a state whose rows are all made since the heap was 'base' long -/
def HOm (w : World) (base : Nat) (W cap : Int) (v : Value) (cs : List Ch) : Prop := ∃ (A : Option Addr) (k : Nat) (ps : List (Ch × Option Addr × Nat)), v = .agg #[.slice A cs.length k] ∧ ps.map (·.1) = cs ∧ OCs w base W cap A cs.length k ps
theorem HOm.hsm {w : World} {base : Nat} {W cap : Int} {v : Value} {cs : List Ch} (h : HOm w base W cap v cs) : HSm w w.heap.size W cap v cs := by
  obtain ⟨A, k, ps, e, hp, h⟩ := h
  exact ⟨A, k, ps, e, by have := h.hcs; rw [hp] at this; exact this⟩
def SAddE (W cap : Int) (cs' : List Ch) (w : World) (e : Ending) (w' : World) : Prop := (∃ v' : Value, e = .returned (.tuple #[v', .int .i64 0]) ∧ HOm w' w.heap.size W cap v' cs') ∧ Below w.heap.size w w'
set_option maxRecDepth 100000 in
set_option maxHeartbeats 4000000 in
theorem sadd_any {W cap v I : Int} {vv : Value} {B : Nat} {cs : List Ch} {l : List Int} {A0 : Option Addr} {n0 k0 : Nat} {w : World} (h : HSm w B W cap vv cs) (hV : VCs W cap I cs) (hW : W < cap) (hv1 : -4096 ≤ v) (hv2 : v ≤ 4096) (hi : I < 1099511627776) (hS : Sl w B A0 n0 (l.map (Value.int .i64))) (hn0 : n0 ≤ 1000000) (hB : B ≤ w.heap.size) {cs' : List Ch} (hok : sampM W cap v cs l = .ok cs' []) :
    Calls Tryz.prog 49 #[vv, .int .i64 v, .slice A0 n0 k0] w (SAddE W cap cs' w) := by
  obtain ⟨i0, hi0, hz0, hz1, hz2⟩ := info_parts info186
  have hln := hS.len
  have HLN := hide hln
  have HOK := hide hok
  clear hok hln
  obtain ⟨A, k, ps, rfl, hC⟩ := h
  have hn1 := hV.n1
  have hn2 := hV.n2
  have HV := hide hV.v
  have C96 := hide (fun (w1 : World) (hb : Below w.heap.size w w1) => sval_any (v := .agg #[.slice A cs.length k]) ⟨A, k, ps, rfl, hC.below (hb.mono hB)⟩ hV (show B ≤ w1.heap.size by have := hb.size; omega))
  generalize hn : cs.length = n at *
  have HN := hide hn
  have qX : Blk ((w.alloc (.cells #[.slice A n k] 48)).alloc (.cells #[.slice none 0 0] 48)) w.heap.size 48 #[.slice A n k] := (Blk.new _ _ _).alloc _
  have qR : Blk ((w.alloc (.cells #[.slice A n k] 48)).alloc (.cells #[.slice none 0 0] 48)) (w.heap.size + 1) 48 #[.slice none 0 0] := Blk.new_at (by simp) _ _
  have qC := hC.below (w' := ((w.alloc (.cells #[.slice A n k] 48)).alloc (.cells #[.slice none 0 0] 48))) (((Below.refl B w).alloc hB _).alloc (by simp; omega) _)
  have qD := hS.below (w' := ((w.alloc (.cells #[.slice A n k] 48)).alloc (.cells #[.slice none 0 0] 48))) (((Below.refl B w).alloc hB _).alloc (by simp; omega) _)
  have qB : Below w.heap.size w ((w.alloc (.cells #[.slice A n k] 48)).alloc (.cells #[.slice none 0 0] 48)) := Bl.alloc' (Bl.alloc' (Below.refl _ w) _) _
  have hl0 : w.heap.size < ((w.alloc (.cells #[.slice A n k] 48)).alloc (.cells #[.slice none 0 0] 48)).heap.size := by simp; omega
  have hl1 : w.heap.size + 1 < ((w.alloc (.cells #[.slice A n k] 48)).alloc (.cells #[.slice none 0 0] 48)).heap.size := by simp
  clear hC hS hV hn
  unfold RetB at C96
  go_enter Tryz.func49, Tryz.ntmps49
  go_upto_region 1 with (fail)
  generalize ((w.alloc (.cells #[.slice A n k] 48)).alloc (.cells #[.slice none 0 0] 48)) = w0 at *
  have X0 := hide qX
  have R0 := hide qR
  have C0 := hide qC
  have D0 := hide qD
  have B0 := hide qB
  clear qX qR qC qD qB
  go_wp2_with (refine wpList_load48 rfl (.tmp 3) rfl w.heap.size 48 rfl X0.out ?_)
  refine (C96.out w0 B0.out).mono ?_
  rintro e w1 ⟨rfl, hb⟩
  have X1 := hide (X0.out.below hb X0.out.lt)
  have R1 := hide (R0.out.below hb R0.out.lt)
  have C1 := hide (C0.out.below (hb.mono (show B ≤ w0.heap.size by omega)))
  have D1 := hide (D0.out.below (hb.mono (show B ≤ w0.heap.size by omega)))
  have B1 := hide (B0.out.trans (hb.mono B0.out.size))
  have hs1 := hb.size
  clear hb X0 R0 C0 D0 B0 C96
  have G1 := hide (Blk.new w1 48 #[.slice none 0 0])
  have X2 := hide (X1.out.alloc (.cells #[.slice none 0 0] 48))
  have R2 := hide (R1.out.alloc (.cells #[.slice none 0 0] 48))
  have C2 := hide (C1.out.below ((Below.refl B w1).alloc (by omega) (.cells #[.slice none 0 0] 48)))
  have D2 := hide (D1.out.alloc (by omega) (.cells #[.slice none 0 0] 48))
  have B2 := hide (Bl.alloc' B1.out (.cells #[.slice none 0 0] 48))
  have hs2 : w1.heap.size < (w1.alloc (.cells #[.slice none 0 0] 48)).heap.size := by simp
  clear X1 R1 C1 D1 B1
  go_upto_region 5 with (fail)
  generalize (w1.alloc (.cells #[.slice none 0 0] 48)) = wB at *
  generalize hgo : w1.heap.size = gO at *
  clear hgo
  have x0 : wB.cell? ⟨w.heap.size, 0, none⟩ = some (.slice A n k) := X2.out.cell 0
  go_wp2
  clear x0
  go_loopw [10, 25] (fun a i wr => ∃ (j at' : Nat) (dn : List (Ch × Option Addr × Nat)) (A1 : Option Addr) (k1 : Nat), j ≤ n ∧ i = .int .i64 j ∧ a = .int .i64 at' ∧ at' ≤ n0 ∧ preS (dn.map (·.1)) (sampM W cap v (cs.drop j) (l.drop at')) = sampM W cap v cs l ∧ Blk wr gO 48 #[.slice A1 j k1] ∧ OCs wr wB.heap.size W cap A1 j k1 dn ∧ Keep gO gO wB wr) (fun _ i _ => n - (intOf i).toNat)
  case atStart => exact ⟨0, 0, [], none, 0, Nat.zero_le _, rfl, rfl, Nat.zero_le _, by rw [List.map_nil, preS_nil]; rfl, G1.out, OCs.nil_ _ _ _ _, Keep.refl _ _ _⟩
  case round =>
    obtain ⟨j, at', dn, A1, k1, hj, rfl, rfl, hat', hpre, hG, hO, hK⟩ := hrel
    have C3 := hide (C2.out.below (hK.below (B := B) (Below.refl _ _) (by omega) (by omega) (by omega)))
    have D3 := hide (hK.sl D2.out (by omega) (by omega) (by omega))
    have G3 := hide hG
    have O3 := hide hO
    have K3 := hide hK
    have HP := hide hpre
    have hsz := hK.size
    clear hG hO hK hpre
    by_cases hlt : j < n
    · have hjlt : (j : Int) < (n : Int) := by omega
      obtain ⟨c, Ac, kc, hpc, hc, hHc⟩ := C3.out.at_ hlt
      obtain ⟨hVc, hIc⟩ := HV.out c (List.mem_of_getElem? hc)
      obtain ⟨b, o, rfl, hbB, c0, c1, c2, c3, c4⟩ := C3.out.row.chain hpc
      have hnb : addM W cap c v (l.drop at') ≠ .bad := fun e => by have := HP.out; rw [sampM_bad hc e, HOK.out] at this; cases this
      have C98 := hide (fun (w2 : World) (hb : Below wr.heap.size wr w2) => cAdd_any (v := v) (l := l) (k0 := k0) (at_ := at') (hHc.below (hb.mono (show B ≤ wr.heap.size by omega))) hVc hW hv1 hv2 (by omega) (D3.out.below (hb.mono (show B ≤ wr.heap.size by omega))) hat' hn0 (by have := hb.size; omega) hnb)
      have HC := hide hc
      clear hpc hc hHc hVc hIc hnb
      have hlb : b < wr.heap.size := by omega
      simp only [] at c2 c3 c4
      generalize hci : c.i = ci at *
      generalize hcx : c.nx = cx at *
      generalize hnc : c.ls.length = nc at *
      clear hci hcx hnc
      have Y1 := hide (Blk.new wr 186 #[.int .i64 W, .int .i64 cap, .int .i64 ci, .int .i64 cx, .slice Ac nc kc])
      have B3 := hide (show Below wr.heap.size wr (wr.alloc (.cells #[.int .i64 W, .int .i64 cap, .int .i64 ci, .int .i64 cx, .slice Ac nc kc] 186)) from Bl.alloc' (Below.refl _ wr) _)
      go_upto_region 9 with (fail)
      generalize (wr.alloc (.cells #[.int .i64 W, .int .i64 cap, .int .i64 ci, .int .i64 cx, .slice Ac nc kc] 186)) = w2 at *
      clear c0 c1 c2 c3 c4
      go_wp2_with (refine wpList_load186 rfl (.tmp 12) rfl wr.heap.size 186 rfl Y1.out ?_)
      refine (C98.out w2 B3.out).mono ?_
      have hs3 := B3.out.size
      rintro e w4 ⟨⟨c2, v2, at2, ho2, hat2, rfl, ⟨A5, k5, rfl, hL5⟩⟩ | ⟨m, ho2, rfl⟩, hb4⟩
      · have HS := hide (sampM_step (d := dn.map (·.1)) HC.out ho2)
        have B4 := hide (Bl.alloc' (B3.out.trans (hb4.mono B3.out.size)) (.cells #[.int .i64 W, .int .i64 cap, .int .i64 c2.i, .int .i64 c2.nx, .slice A5 c2.ls.length k5] 186))
        have V4 := hide (Blk.new w4 186 #[.int .i64 W, .int .i64 cap, .int .i64 c2.i, .int .i64 c2.nx, .slice A5 c2.ls.length k5])
        have L4 := hide (hL5.alloc (.cells #[.int .i64 W, .int .i64 cap, .int .i64 c2.i, .int .i64 c2.nx, .slice A5 c2.ls.length k5] 186))
        have hs4 := hb4.size
        clear hb4 ho2 Y1 B3 hL5
        generalize hm : c2.ls.length = m at *
        have HM := hide hm
        clear hm
        go_upto_region 10 with (fail)
        generalize (w4.alloc (.cells #[.int .i64 W, .int .i64 cap, .int .i64 c2.i, .int .i64 c2.nx, .slice A5 m k5] 186)) = w5 at *
        have G5 := hide (G3.out.below B4.out G3.out.lt)
        have O5 := hide (O3.out.keep (fun q _ hq => B4.out.block q hq))
        have K5 : Hid (Keep gO gO wB w5) := hide (K3.out.trans ⟨B4.out.os, B4.out.tape, B4.out.output, B4.out.size, fun q hq _ _ => B4.out.block q hq⟩)
        have hs5 := B4.out.size
        have hl5 : gO < w5.heap.size := by omega
        have oc5 : w5.cell? ⟨gO, 0, none⟩ = some (.slice A1 j k1) := G5.out.cell 0
        have hv4 := V4.out.lt
        have hfar : ∀ q, (Value.slice A5 m k5).ownBlock = some q → (Value.slice A1 j k1).ownBlock ≠ some q := fun q h1 h2 => by have := (L4.out.lt q h1).1; have := (O3.out.row.lt q h2).2; omega
        have hneG : some gO ≠ (Value.slice A1 j k1).ownBlock := fun e => by have := (O3.out.row.lt gO e.symm).1; omega
        have HFAR := hide hfar
        have HNEG := hide hneG
        clear hfar hneG
        go_upto_region 14 with (first | (refine wpList_load186 rfl (.tmp 13) rfl w4.heap.size 186 rfl V4.out ?_) | (at_builtin; refine wpList_appendKa _ rfl (.tmp 44) (.tmp 46) 46 rfl wB.heap.size 186 i0 (.agg #[.int .i64 0, .int .i64 0, .int .i64 0, .int .i64 0, .slice none 0 0]) 5 56 Tryz.underlying46 hi0 hz0 hz1 hz2 rfl (by decide) (.slice A1 j k1) j (ck W cap dn) rfl (O5.out.row.alloc _) _ (some ⟨w5.heap.size, 0, none⟩) 1 1 [.int .i64 W, .int .i64 cap, .int .i64 c2.i, .int .i64 c2.nx, .slice A5 m k5] rfl (SlK.one (l := [.int .i64 W, .int .i64 cap, .int .i64 c2.i, .int .i64 c2.nx, .slice A5 m k5]) rfl rfl) (by intro u hu; simp at hu; rcases hu with rfl | rfl | rfl | rfl | rfl <;> rfl) (j + 1) rfl (by simp only [maxLen]; omega) (by omega) (by simp; omega) ?_; intro A6 k6 w6 hown6 hg6 hat6; have oc : w6.cell? ⟨gO, 0, none⟩ = some (.slice A1 j k1) := (((Blk.alloc G5.out _).grown hg6 HNEG.out).cell 0); have of : w6.frozen? ⟨gO, 0, none⟩ = false := (((Blk.alloc G5.out _).grown hg6 HNEG.out).frozen 0)))
        have hg6' := hg6
        have O6 := hide (OCs.snoc (p := (c2, A5, k5)) (O5.out.keep (w' := w5.alloc (.cells #[.int .i64 W, .int .i64 cap, .int .i64 c2.i, .int .i64 c2.nx, .slice A5 m k5] 186)) (fun q _ hq => Below.heap_alloc w5 _ q hq)) (by show OwnK _ _ _ _ (.slice A5 c2.ls.length k5) _ _; rw [HM.out]; have := ((L4.out.mono (show wB.heap.size ≤ w2.heap.size by omega)).alloc (.cells #[.int .i64 W, .int .i64 cap, .int .i64 c2.i, .int .i64 c2.nx, .slice A5 m k5] 186)); exact this) (by show ∀ q, (Value.slice A5 c2.ls.length k5).ownBlock = some q → _; rw [HM.out]; exact HFAR.out) (by have e : encC W cap (c2, A5, k5) = [.int .i64 W, .int .i64 cap, .int .i64 c2.i, .int .i64 c2.nx, .slice A5 m k5] := (by simp [encC, HM.out]); rw [e]; exact hown6) hg6 (by simpa using hat6))
        have G6 := hide ((Blk.alloc G5.out (.cells #[.int .i64 W, .int .i64 cap, .int .i64 c2.i, .int .i64 c2.nx, .slice A5 m k5] 186)).grown hg6 HNEG.out)
        have K6 := hide ((K5.out.alloc (.cells #[.int .i64 W, .int .i64 cap, .int .i64 c2.i, .int .i64 c2.nx, .slice A5 m k5] 186)).grown hg6 (fun q hq => (O3.out.row.lt q hq).1))
        have G7 := hide (show Blk (w6.setCell ⟨gO, 0, none⟩ (.slice A6 (j + 1) k6)) gO 48 #[.slice A6 (j + 1) k6] by simpa using G6.out.set_ 0 (.slice A6 (j + 1) k6))
        have K7 := hide (K6.out.set_tb 0 (.slice A6 (j + 1) k6))
        have O7 := hide (O6.out.keep (w' := w6.setCell ⟨gO, 0, none⟩ (.slice A6 (j + 1) k6)) (fun q h1 _ => Below.heap_setCell w6 ⟨gO, 0, none⟩ _ q (by simp; omega)))
        clear hown6 hg6 hg6' hat6 oc of G6 K6 O6 G5 O5 K5 oc5
        generalize (w6.setCell ⟨gO, 0, none⟩ (.slice A6 (j + 1) k6)) = w7 at *
        go_wp2
        go_roundw
        case rel => exact ⟨j + 1, at2, dn ++ [(c2, A5, k5)], A6, k6, by omega, by first | rfl | go_num, rfl, hat2, by rw [List.map_append]; exact HS.out.symm.trans HP.out, G7.out, O7.out, K7.out⟩
        case measure => simp [intOf]; omega
      · have := HP.out
        rw [sampM_needs HC.out ho2, HOK.out] at this
        cases this
    · have hje : j = n := by omega
      subst hje
      have hge : ¬ (j : Int) < (j : Int) := by omega
      have hfin : OutS.ok (dn.map (·.1)) (l.drop at') = .ok cs' [] := by
        rw [← HOK.out, ← HP.out, show cs.drop j = [] from List.drop_of_length_le (by have := HN.out; omega)]; simp [sampM, preS]
      injection hfin with hf1 hf2
      have hd : decide ((at' : Int) < (n0 : Int)) = false := by
        have h1 : l.length ≤ at' := by have := congrArg List.length hf2; simp at this; omega
        have := HLN.out
        simp; omega
      have hdn : decide (at' < n0) = false := by simpa using hd
      have HF1 := hide hf1
      clear hf1 hf2
      have X4 := hide (K3.out.blk X2.out (by omega) (by omega))
      have R4 := hide (K3.out.blk R2.out (by omega) (by omega))
      have B4 := hide (K3.out.below B2.out (by omega) (by omega) (by omega))
      go_wp2_with (first | (refine wpList_load48 rfl (.tmp 9) rfl gO 48 rfl G3.out ?_) | (refine wpList_store_row rfl 48 (.tmp 6) (.tmp 55) rfl (w.heap.size + 1) #[.slice A1 j k1] rfl rfl 48 #[.slice none 0 0] R4.out size48 rfl (by simp [Value.oneCell']) ?_))
      refine bodyPost_ret (res48 rfl _ rfl (R4.out.row _)) rfl ?_
      have O9 := O3.out.keep (w' := wr.setRow (w.heap.size + 1) #[.slice A1 j k1]) (fun q h1 _ => setRow_other wr (w.heap.size + 1) q _ (by omega))
      have hln : cs'.length = j := by rw [← HF1.out, List.length_map, O9.len]
      exact ⟨⟨_, rfl, A1, k1, dn, by rw [hln], HF1.out, by rw [hln]; exact O9.mono (by omega)⟩, below_row B4.out (by omega) _⟩
end Go.Proofs.YtbageimconenlaaGreat
