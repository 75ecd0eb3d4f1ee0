/- An item added to a chain, and the range of the draw that it needs: the contracts. -/
import Derived.Test.YtbageimconenlaaGreatCc
namespace Go.Proofs.YtbageimconenlaaGreat
open Go.RowKit
set_option linter.unusedVariables false
def CAddE (W cap : Int) (l : List Int) (n : Nat) (o : Out) (w : World) (e : Ending) (w' : World) : Prop :=
  ((∃ (c' : Ch) (v' : Value) (at' : Nat), o = .ok c' (l.drop at') ∧ at' ≤ n ∧ e = .returned (.tuple #[v', .int .i64 at', .int .i64 0]) ∧ HChO w' w.heap.size W cap v' c') ∨
   (∃ m : Int, o = .need m ∧ e = .returned (.tuple #[.agg #[.int .i64 0, .int .i64 0, .int .i64 0, .int .i64 0, .slice none 0 0], .int .i64 0, .int .i64 8]))) ∧ Below w.heap.size w w'
def CNeedE (o : Out) (w : World) (e : Ending) (w' : World) : Prop :=
  ((∃ (c' : Ch) (r : List Int), o = .ok c' r ∧ e = .returned (.tuple #[.int .i64 0, .bool false])) ∨ (∃ m : Int, o = .need m ∧ e = .returned (.tuple #[.int .i64 m, .bool true]))) ∧ Below w.heap.size w w'
set_option maxRecDepth 100000 in
set_option maxHeartbeats 2000000 in
theorem cAdd_any {W cap v : Int} {vv : Value} {B : Nat} {c : Ch} {l : List Int} {A0 : Option Addr} {n0 k0 at_ : Nat} {w : World} (h : HCh w B W cap vv c) (hV : VCh W cap c) (hW : W < cap) (hv1 : -4096 ≤ v) (hv2 : v ≤ 4096) (hi : c.i < 1099511627776) (hS : Sl w B A0 n0 (l.map (Value.int .i64))) (hat : at_ ≤ n0) (hn0 : n0 ≤ 1000000) (hB : B ≤ w.heap.size) (hbad : addM W cap c v (l.drop at_) ≠ .bad) :
    Calls Tryz.prog 98 #[vv, .int .i64 v, .slice A0 n0 k0, .int .i64 at_] w (CAddE W cap l n0 (addM W cap c v (l.drop at_)) w) := by
  obtain ⟨A, k, rfl, hL⟩ := h
  have HVc := hide hV
  have HBAD := hide hbad
  generalize hn : c.ls.length = n at *
  have HN := hide hn
  have qX : Blk ((w.alloc (.cells #[.int .i64 W, .int .i64 cap, .int .i64 c.i, .int .i64 c.nx, .slice A n k] 186)).alloc (.cells #[.int .i64 0, .int .i64 0, .int .i64 0, .int .i64 0, .slice none 0 0] 186)) w.heap.size 186 #[.int .i64 W, .int .i64 cap, .int .i64 c.i, .int .i64 c.nx, .slice A n k] := (Blk.new _ _ _).alloc _
  have qR : Blk ((w.alloc (.cells #[.int .i64 W, .int .i64 cap, .int .i64 c.i, .int .i64 c.nx, .slice A n k] 186)).alloc (.cells #[.int .i64 0, .int .i64 0, .int .i64 0, .int .i64 0, .slice none 0 0] 186)) (w.heap.size + 1) 186 #[.int .i64 0, .int .i64 0, .int .i64 0, .int .i64 0, .slice none 0 0] := Blk.new_at (by simp) _ _
  have qH : HCh ((w.alloc (.cells #[.int .i64 W, .int .i64 cap, .int .i64 c.i, .int .i64 c.nx, .slice A n k] 186)).alloc (.cells #[.int .i64 0, .int .i64 0, .int .i64 0, .int .i64 0, .slice none 0 0] 186)) B W cap (.agg #[.int .i64 W, .int .i64 cap, .int .i64 c.i, .int .i64 c.nx, .slice A n k]) c := ⟨A, k, by rw [hn], by rw [hn]; exact (hL.alloc hB _).alloc (by simp; omega) _⟩
  have qD : Sl ((w.alloc (.cells #[.int .i64 W, .int .i64 cap, .int .i64 c.i, .int .i64 c.nx, .slice A n k] 186)).alloc (.cells #[.int .i64 0, .int .i64 0, .int .i64 0, .int .i64 0, .slice none 0 0] 186)) B A0 n0 (l.map (Value.int .i64)) := (hS.alloc hB _).alloc (by simp; omega) _
  have qB : Below w.heap.size w ((w.alloc (.cells #[.int .i64 W, .int .i64 cap, .int .i64 c.i, .int .i64 c.nx, .slice A n k] 186)).alloc (.cells #[.int .i64 0, .int .i64 0, .int .i64 0, .int .i64 0, .slice none 0 0] 186)) := Bl.alloc' (Bl.alloc' (Below.refl _ w) _) _
  have hl0 : w.heap.size < ((w.alloc (.cells #[.int .i64 W, .int .i64 cap, .int .i64 c.i, .int .i64 c.nx, .slice A n k] 186)).alloc (.cells #[.int .i64 0, .int .i64 0, .int .i64 0, .int .i64 0, .slice none 0 0] 186)).heap.size := by simp; omega
  have hl1 : w.heap.size + 1 < ((w.alloc (.cells #[.int .i64 W, .int .i64 cap, .int .i64 c.i, .int .i64 c.nx, .slice A n k] 186)).alloc (.cells #[.int .i64 0, .int .i64 0, .int .i64 0, .int .i64 0, .slice none 0 0] 186)).heap.size := by simp
  clear hL hS hV hbad hn
  go_enter Tryz.func98, Tryz.ntmps98
  go_upto_region 1 with (fail)
  generalize ((w.alloc (.cells #[.int .i64 W, .int .i64 cap, .int .i64 c.i, .int .i64 c.nx, .slice A n k] 186)).alloc (.cells #[.int .i64 0, .int .i64 0, .int .i64 0, .int .i64 0, .slice none 0 0] 186)) = w0 at *
  have X0 := hide qX
  have R0 := hide qR
  have H0 := hide qH
  have D0 := hide qD
  have B0 := hide qB
  clear qX qR qH qD qB
  go_wp2_with (refine wpList_load186 rfl (.tmp 4) rfl w.heap.size 186 rfl X0.out ?_)
  refine (cval_any H0.out HVc.out (by omega)).mono ?_
  rintro e w1 ⟨rfl, hb⟩
  have hs1 := hb.size
  have X1 := hide (X0.out.below hb X0.out.lt)
  have R1 := hide (R0.out.below hb R0.out.lt)
  have H1 := hide (H0.out.below (hb.mono (show B ≤ w0.heap.size by omega)))
  have D1 := hide (D0.out.below (hb.mono (show B ≤ w0.heap.size by omega)))
  have B1 := hide (B0.out.trans (hb.mono B0.out.size))
  clear hb X0 R0 H0 D0 B0
  have X2 := hide (X1.out.alloc (.cells #[.slice A0 n0 k0, .int .i64 at_, .int .i64 0] 257))
  have R2 := hide (R1.out.alloc (.cells #[.slice A0 n0 k0, .int .i64 at_, .int .i64 0] 257))
  have H2 := hide (H1.out.below ((Below.refl B w1).alloc (by omega) (.cells #[.slice A0 n0 k0, .int .i64 at_, .int .i64 0] 257)))
  have D2 := hide (D1.out.alloc (by omega) (.cells #[.slice A0 n0 k0, .int .i64 at_, .int .i64 0] 257))
  have B2 := hide (Bl.alloc' B1.out (.cells #[.slice A0 n0 k0, .int .i64 at_, .int .i64 0] 257))
  have C2 := hide (Blk.new w1 257 #[.slice A0 n0 k0, .int .i64 at_, .int .i64 0])
  have hs2 : w1.heap.size < (w1.alloc (.cells #[.slice A0 n0 k0, .int .i64 at_, .int .i64 0] 257)).heap.size := by simp
  clear X1 R1 H1 D1 B1
  go_upto_region 5 with (fail)
  generalize (w1.alloc (.cells #[.slice A0 n0 k0, .int .i64 at_, .int .i64 0] 257)) = w2 at *
  go_wp2_with (refine wpList_load186 rfl (.tmp 4) rfl w.heap.size 186 rfl X2.out ?_)
  refine (cadd_any (l := l) H2.out HVc.out hW hv1 hv2 hi C2.out D2.out hat hn0 (by omega) HBAD.out).mono ?_
  rintro e w3 ⟨⟨c', v', at', ho, hat', rfl, ⟨A3, k3, rfl, hL3⟩, hC3⟩ | ⟨m, at', ho, rfl, hC3⟩, hK⟩
  · have R3 := hide (hK.blk R2.out (by omega) (by omega))
    have B3 := hide (hK.below B2.out (by omega) (by omega) (by omega))
    have hs3 := hK.size
    have HO := hide ho
    generalize hm : c'.ls.length = m at *
    have HM := hide hm
    have V4 := hide (Blk.new w3 186 #[.int .i64 W, .int .i64 cap, .int .i64 c'.i, .int .i64 c'.nx, .slice A3 m k3])
    have R4 := hide (R3.out.alloc (.cells #[.int .i64 W, .int .i64 cap, .int .i64 c'.i, .int .i64 c'.nx, .slice A3 m k3] 186))
    have B4 := hide (Bl.alloc' B3.out (.cells #[.int .i64 W, .int .i64 cap, .int .i64 c'.i, .int .i64 c'.nx, .slice A3 m k3] 186))
    have C4 := hide (hC3.alloc (.cells #[.int .i64 W, .int .i64 cap, .int .i64 c'.i, .int .i64 c'.nx, .slice A3 m k3] 186))
    have L4 := hide (hL3.alloc (.cells #[.int .i64 W, .int .i64 cap, .int .i64 c'.i, .int .i64 c'.nx, .slice A3 m k3] 186))
    have hs4 : w3.heap.size < (w3.alloc (.cells #[.int .i64 W, .int .i64 cap, .int .i64 c'.i, .int .i64 c'.nx, .slice A3 m k3] 186)).heap.size := by simp
    clear ho hm hL3 hC3 hK X2 R2 H2 D2 B2 C2 R3 B3
    go_upto_region 6 with (fail)
    generalize (w3.alloc (.cells #[.int .i64 W, .int .i64 cap, .int .i64 c'.i, .int .i64 c'.nx, .slice A3 m k3] 186)) = w4 at *
    have v0 : w4.cell? ⟨w3.heap.size, 0, none⟩ = some (.int .i64 W) := V4.out.cell 0
    have v1 : w4.cell? ⟨w3.heap.size, 1, none⟩ = some (.int .i64 cap) := V4.out.cell 1
    have v2 : w4.cell? ⟨w3.heap.size, 2, none⟩ = some (.int .i64 c'.i) := V4.out.cell 2
    have v3 : w4.cell? ⟨w3.heap.size, 3, none⟩ = some (.int .i64 c'.nx) := V4.out.cell 3
    have v4 : w4.cell? ⟨w3.heap.size, 4, none⟩ = some (.slice A3 m k3) := V4.out.cell 4
    have s1 : w4.cell? ⟨w1.heap.size, 1, none⟩ = some (.int .i64 at') := C4.out.cell 1
    have r0 : w4.cell? ⟨w.heap.size + 1, 0, none⟩ = some (.int .i64 0) := R4.out.cell 0
    have r1 : w4.cell? ⟨w.heap.size + 1, 1, none⟩ = some (.int .i64 0) := R4.out.cell 1
    have r2 : w4.cell? ⟨w.heap.size + 1, 2, none⟩ = some (.int .i64 0) := R4.out.cell 2
    have r3 : w4.cell? ⟨w.heap.size + 1, 3, none⟩ = some (.int .i64 0) := R4.out.cell 3
    have r4 : w4.cell? ⟨w.heap.size + 1, 4, none⟩ = some (.slice none 0 0) := R4.out.cell 4
    have f0 := R4.out.frozen 0
    have f1 := R4.out.frozen 1
    have f2 := R4.out.frozen 2
    have f3 := R4.out.frozen 3
    have f4 := R4.out.frozen 4
    have n1 : w3.heap.size ≠ w.heap.size + 1 := by omega
    have n2 : w1.heap.size ≠ w.heap.size + 1 := by have := R4.out.lt; omega
    go_upto_region 8 with (fail)
    go_region
    all_goals
      go_wp2
      refine bodyPost_ret (res186c (u0 := .int .i64 W) (u1 := .int .i64 cap) (u2 := .int .i64 c'.i) (u3 := .int .i64 c'.nx) (u4 := .slice A3 m k3) (g := w.heap.size + 1) (t := 186) rfl _ rfl ?_) rfl ?_
      rotate_left
      · exact ⟨.inl ⟨c', _, at', HO.out, hat', rfl, ⟨A3, k3, by rw [HM.out], by rw [HM.out]; exact OwnK.drew ((((((L4.out.far (p := ⟨w.heap.size + 1, 0, none⟩) (fun q hq => by have := (L4.out.lt q hq).1; simp; omega) (.int .i64 W)).far (p := ⟨w.heap.size + 1, 1, none⟩) (fun q hq => by have := (L4.out.lt q hq).1; simp; omega) (.int .i64 cap)).far (p := ⟨w.heap.size + 1, 2, none⟩) (fun q hq => by have := (L4.out.lt q hq).1; simp; omega) (.int .i64 c'.i)).far (p := ⟨w.heap.size + 1, 3, none⟩) (fun q hq => by have := (L4.out.lt q hq).1; simp; omega) (.int .i64 c'.nx)).far (p := ⟨w.heap.size + 1, 4, none⟩) (fun q hq => by have := (L4.out.lt q hq).1; simp; omega) (.slice A3 m k3)).mono (show w.heap.size ≤ w2.heap.size by omega))⟩⟩, Below.drew (((((B4.out.setCell (p := ⟨w.heap.size + 1, 0, none⟩) (by simp) (.int .i64 W)).setCell (p := ⟨w.heap.size + 1, 1, none⟩) (by simp) (.int .i64 cap)).setCell (p := ⟨w.heap.size + 1, 2, none⟩) (by simp) (.int .i64 c'.i)).setCell (p := ⟨w.heap.size + 1, 3, none⟩) (by simp) (.int .i64 c'.nx)).setCell (p := ⟨w.heap.size + 1, 4, none⟩) (by simp) (.slice A3 m k3))⟩
      · exact Blk.drew (by simpa using (((((R4.out.set_ 0 (.int .i64 W)).set_ 1 (.int .i64 cap)).set_ 2 (.int .i64 c'.i)).set_ 3 (.int .i64 c'.nx)).set_ 4 (.slice A3 m k3)))
  · have R3 := hide (hK.blk R2.out (by omega) (by omega))
    have B3 := hide (hK.below B2.out (by omega) (by omega) (by omega))
    have HO := hide ho
    have hs3 := hK.size
    have R4 := hide (R3.out.alloc (.cells #[.int .i64 0, .int .i64 0, .int .i64 0, .int .i64 0, .slice none 0 0] 186))
    have B4 := hide (Bl.alloc' B3.out (.cells #[.int .i64 0, .int .i64 0, .int .i64 0, .int .i64 0, .slice none 0 0] 186))
    clear ho hC3 hK X2 R2 H2 D2 B2 C2 R3 B3
    go_upto_region 6 with (fail)
    generalize (w3.alloc (.cells #[.int .i64 0, .int .i64 0, .int .i64 0, .int .i64 0, .slice none 0 0] 186)) = w4 at *
    go_wp2_with (first | (refine wpList_build186 rfl rfl ?_) | (refine wpList_store_row rfl 186 (.tmp 8) (.tmp 34) rfl (w.heap.size + 1) #[.int .i64 0, .int .i64 0, .int .i64 0, .int .i64 0, .slice none 0 0] rfl rfl 186 #[.int .i64 0, .int .i64 0, .int .i64 0, .int .i64 0, .slice none 0 0] R4.out size186 rfl (by simp [Value.oneCell']) ?_))
    refine bodyPost_ret (res186c rfl _ rfl (R4.out.row _)) rfl ?_
    exact ⟨.inr ⟨m, HO.out, rfl⟩, below_row B4.out (by omega) _⟩
set_option maxRecDepth 100000 in
set_option maxHeartbeats 2000000 in
theorem cNeeds_any {W cap v : Int} {vv : Value} {B : Nat} {c : Ch} {l : List Int} {A0 : Option Addr} {n0 k0 at_ : Nat} {w : World} (h : HCh w B W cap vv c) (hV : VCh W cap c) (hW : W < cap) (hv1 : -4096 ≤ v) (hv2 : v ≤ 4096) (hi : c.i < 1099511627776) (hS : Sl w B A0 n0 (l.map (Value.int .i64))) (hat : at_ ≤ n0) (hn0 : n0 ≤ 1000000) (hB : B ≤ w.heap.size) (hbad : addM W cap c v (l.drop at_) ≠ .bad) :
    Calls Tryz.prog 97 #[vv, .int .i64 v, .slice A0 n0 k0, .int .i64 at_] w (CNeedE (addM W cap c v (l.drop at_)) w) := by
  obtain ⟨A, k, rfl, hL⟩ := h
  have HVc := hide hV
  have HBAD := hide hbad
  generalize hn : c.ls.length = n at *
  have HN := hide hn
  have qX : Blk (w.alloc (.cells #[.int .i64 W, .int .i64 cap, .int .i64 c.i, .int .i64 c.nx, .slice A n k] 186)) w.heap.size 186 #[.int .i64 W, .int .i64 cap, .int .i64 c.i, .int .i64 c.nx, .slice A n k] := Blk.new _ _ _
  have qH : HCh (w.alloc (.cells #[.int .i64 W, .int .i64 cap, .int .i64 c.i, .int .i64 c.nx, .slice A n k] 186)) B W cap (.agg #[.int .i64 W, .int .i64 cap, .int .i64 c.i, .int .i64 c.nx, .slice A n k]) c := ⟨A, k, by rw [hn], by rw [hn]; exact hL.alloc hB _⟩
  have qD : Sl (w.alloc (.cells #[.int .i64 W, .int .i64 cap, .int .i64 c.i, .int .i64 c.nx, .slice A n k] 186)) B A0 n0 (l.map (Value.int .i64)) := hS.alloc hB _
  have qB : Below w.heap.size w (w.alloc (.cells #[.int .i64 W, .int .i64 cap, .int .i64 c.i, .int .i64 c.nx, .slice A n k] 186)) := Bl.alloc' (Below.refl _ w) _
  have hl0 : w.heap.size < (w.alloc (.cells #[.int .i64 W, .int .i64 cap, .int .i64 c.i, .int .i64 c.nx, .slice A n k] 186)).heap.size := by simp
  clear hL hS hV hbad hn
  go_enter Tryz.func97, Tryz.ntmps97
  go_upto_region 1 with (fail)
  generalize (w.alloc (.cells #[.int .i64 W, .int .i64 cap, .int .i64 c.i, .int .i64 c.nx, .slice A n k] 186)) = w0 at *
  have X0 := hide qX
  have H0 := hide qH
  have D0 := hide qD
  have B0 := hide qB
  clear qX qH qD qB
  go_wp2_with (refine wpList_load186 rfl (.tmp 4) rfl w.heap.size 186 rfl X0.out ?_)
  refine (cval_any H0.out HVc.out (by omega)).mono ?_
  rintro e w1 ⟨rfl, hb⟩
  have hs1 := hb.size
  have X1 := hide (X0.out.below hb X0.out.lt)
  have H1 := hide (H0.out.below (hb.mono (show B ≤ w0.heap.size by omega)))
  have D1 := hide (D0.out.below (hb.mono (show B ≤ w0.heap.size by omega)))
  have B1 := hide (B0.out.trans (hb.mono B0.out.size))
  clear hb X0 H0 D0 B0
  have X2 := hide (X1.out.alloc (.cells #[.slice A0 n0 k0, .int .i64 at_, .int .i64 0] 257))
  have H2 := hide (H1.out.below ((Below.refl B w1).alloc (by omega) (.cells #[.slice A0 n0 k0, .int .i64 at_, .int .i64 0] 257)))
  have D2 := hide (D1.out.alloc (by omega) (.cells #[.slice A0 n0 k0, .int .i64 at_, .int .i64 0] 257))
  have B2 := hide (Bl.alloc' B1.out (.cells #[.slice A0 n0 k0, .int .i64 at_, .int .i64 0] 257))
  have C2 := hide (Blk.new w1 257 #[.slice A0 n0 k0, .int .i64 at_, .int .i64 0])
  have hs2 : w1.heap.size < (w1.alloc (.cells #[.slice A0 n0 k0, .int .i64 at_, .int .i64 0] 257)).heap.size := by simp
  clear X1 H1 D1 B1
  go_upto_region 4 with (fail)
  generalize (w1.alloc (.cells #[.slice A0 n0 k0, .int .i64 at_, .int .i64 0] 257)) = w2 at *
  go_wp2_with (refine wpList_load186 rfl (.tmp 4) rfl w.heap.size 186 rfl X2.out ?_)
  refine (cadd_any (l := l) H2.out HVc.out hW hv1 hv2 hi C2.out D2.out hat hn0 (by omega) HBAD.out).mono ?_
  rintro e w3 ⟨⟨c', v', at', ho, hat', rfl, ⟨A3, k3, rfl, hL3⟩, hC3⟩ | ⟨m, at', ho, rfl, hC3⟩, hK⟩
  · have B3 := hide (hK.below B2.out (by omega) (by omega) (by omega))
    have HO := hide ho
    clear ho hL3 hC3 hK X2 H2 D2 B2 C2
    generalize c'.ls.length = m at *
    have B4 := hide (Bl.alloc' B3.out (.cells #[.int .i64 W, .int .i64 cap, .int .i64 c'.i, .int .i64 c'.nx, .slice A3 m k3] 186))
    go_wp2
    go_ret2
    exact ⟨.inl ⟨c', _, HO.out, rfl⟩, B4.out⟩
  · have hm := (addM_need HVc.out hW ho).1
    have B3 := hide (hK.below B2.out (by omega) (by omega) (by omega))
    have HO := hide ho
    have hs3 := hK.size
    have C4 := hide (hC3.alloc (.cells #[.int .i64 0, .int .i64 0, .int .i64 0, .int .i64 0, .slice none 0 0] 186))
    have B4 := hide (Bl.alloc' B3.out (.cells #[.int .i64 0, .int .i64 0, .int .i64 0, .int .i64 0, .slice none 0 0] 186))
    clear ho hC3 hK X2 H2 D2 B2 C2 B3
    have e0 : (m == 0) = false := by simp; omega
    go_upto_region 5 with (fail)
    generalize (w3.alloc (.cells #[.int .i64 0, .int .i64 0, .int .i64 0, .int .i64 0, .slice none 0 0] 186)) = w4 at *
    have s2 : w4.cell? ⟨w1.heap.size, 2, none⟩ = some (.int .i64 m) := C4.out.cell 2
    go_wp2
    go_ret2
    exact ⟨.inr ⟨m, HO.out, rfl⟩, B4.out⟩
end Go.Proofs.YtbageimconenlaaGreat
