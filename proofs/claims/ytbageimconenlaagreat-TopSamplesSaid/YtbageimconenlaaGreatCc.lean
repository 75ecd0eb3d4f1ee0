/- One more item for a chain: the contract. -/
import Derived.Test.YtbageimconenlaaGreatCb
namespace Go.Proofs.YtbageimconenlaaGreat
open Go.RowKit
set_option linter.unusedVariables false
theorem info285 : (Tryz.prog.info? 285).map (fun i => (i.zero, i.size, i.bytes)) = some (some (.agg #[.int .i64 0, .int .i64 0]), 2, 16) := by kernel_rfl
def HChO (w : World) (base : Nat) (W cap : Int) (v : Value) (c : Ch) : Prop := ∃ (A : Option Addr) (k : Nat), v = .agg #[.int .i64 W, .int .i64 cap, .int .i64 c.i, .int .i64 c.nx, .slice A c.ls.length k] ∧ OwnK w base 285 2 (.slice A c.ls.length k) c.ls.length (lk c.ls)
theorem HChO.h {w : World} {base : Nat} {W cap : Int} {v : Value} {c : Ch} (h : HChO w base W cap v c) : HCh w w.heap.size W cap v c := by
  obtain ⟨A, k, e, h⟩ := h
  exact ⟨A, k, e, h.sl⟩
def CAddR (W cap : Int) (l : List Int) (A : Option Addr) (n k g : Nat) (o : Out) (w : World) (e : Ending) (w' : World) : Prop :=
  ((∃ (c' : Ch) (v' : Value) (at' : Nat), o = .ok c' (l.drop at') ∧ at' ≤ n ∧ e = .returned (.tuple #[v', .int .i64 0]) ∧ HChO w' w.heap.size W cap v' c' ∧ Blk w' g 257 #[.slice A n k, .int .i64 at', .int .i64 0]) ∨
   (∃ (m : Int) (at' : Nat), o = .need m ∧ e = .returned (.tuple #[.agg #[.int .i64 0, .int .i64 0, .int .i64 0, .int .i64 0, .slice none 0 0], .int .i64 8]) ∧ Blk w' g 257 #[.slice A n k, .int .i64 at', .int .i64 m])) ∧ Keep g g w w'
theorem Keep.row {tb g h : Nat} {a b : World} (x : Keep tb g a b) (hh : a.heap.size ≤ h) (cs : Array Value) : Keep tb g a (b.setRow h cs) :=
  ⟨x.os, x.tape, x.output, by simpa [World.setRow] using x.size, fun k hk h1 h2 => (setRow_other b h k cs (by omega)).trans (x.block k hk h1 h2)⟩
theorem OwnK.row_far {w : World} {base k n g' : Nat} {e : TypeId} {v : Value} {xs : List Value} (h : OwnK w base e k v n xs) (hne : ∀ q, v.ownBlock = some q → q ≠ g') (cs : Array Value) : OwnK (w.setRow g' cs) base e k v n xs := h.keep fun q hq => setRow_other w g' q cs (hne q hq)
theorem OwnK.cap {w : World} {base k n c : Nat} {e : TypeId} {A : Option Addr} {xs : List Value} (h : OwnK w base e k (.slice A n c) n xs) : n ≤ c ∧ c ≤ maxLen := by
  obtain ⟨A', c', e, h1, h2⟩ := h.form
  injection e with _ _ e
  subst e
  exact ⟨h1, h2⟩
theorem drop_at {l : List Int} {j : Nat} {d : Int} {t : List Int} (h : l.drop j = d :: t) : l[j]? = some d ∧ t = l.drop (j + 1) := by
  have h1 : (l.drop j)[0]? = some d := by rw [h]; rfl
  rw [List.getElem?_drop, Nat.add_zero] at h1
  refine ⟨h1, ?_⟩
  have h2 := drop_cons h1
  rw [h] at h2
  injection h2
theorem drop_none {l : List Int} {j : Nat} (h : l.drop j = []) : l[j]? = none := by
  have : (l.drop j)[0]? = none := by rw [h]; rfl
  rwa [List.getElem?_drop, Nat.add_zero] at this
set_option maxRecDepth 100000 in
set_option maxHeartbeats 4000000 in
theorem cadd_any {W cap v : Int} {vv : Value} {B : Nat} {c : Ch} {l : List Int} {A0 : Option Addr} {n0 k0 g at_ : Nat} {w : World} (h : HCh w B W cap vv c) (hV : VCh W cap c) (hW : W < cap) (hv1 : -4096 ≤ v) (hv2 : v ≤ 4096) (hi : c.i < 1099511627776)
    (hC : Blk w g 257 #[.slice A0 n0 k0, .int .i64 at_, .int .i64 0]) (hS : Sl w B A0 n0 (l.map (Value.int .i64))) (hat : at_ ≤ n0) (hn0 : n0 ≤ 1000000) (hB : B ≤ g) (hbad : addM W cap c v (l.drop at_) ≠ .bad) :
    Calls Tryz.prog 172 #[vv, .int .i64 v, .pointer (some ⟨g, 0, none⟩)] w (CAddR W cap l A0 n0 k0 g (addM W cap c v (l.drop at_)) w) := by
  obtain ⟨A, k, rfl, hL⟩ := h
  obtain ⟨i0, hi0, hz0, hz1, hz2⟩ := info_parts info285
  have hgl := hC.lt
  have bw1 := hV.w1
  have bw2 := hV.w2
  have c1 := hV.c1
  have c2 := hV.c2
  have hi0' := hV.i0
  have hlw := hV.len_w
  have HVc := hide hV
  have HBAD := hide hbad
  clear hV hbad
  obtain ⟨ci, cx, ls⟩ := c
  simp only [] at *
  generalize hn : ls.length = n at *
  have HN := hide hn
  have hn64 : n ≤ 64 := by omega
  have z1 : (ci == 1099511627776) = false := by simp; omega
  have d1 : decide (v < -4096) = false := by simp; omega
  have d2 : decide (4096 < v) = false := by simp; omega
  have d3 : decide ((at_ : Int) < 0) = false := by simp
  have qX : Blk ((w.alloc (.cells #[.int .i64 W, .int .i64 cap, .int .i64 ci, .int .i64 cx, .slice A n k] 186)).alloc (.cells #[.int .i64 0, .int .i64 0, .int .i64 0, .int .i64 0, .slice none 0 0] 186)) w.heap.size 186 #[.int .i64 W, .int .i64 cap, .int .i64 ci, .int .i64 cx, .slice A n k] := (Blk.new _ _ _).alloc _
  have qR : Blk ((w.alloc (.cells #[.int .i64 W, .int .i64 cap, .int .i64 ci, .int .i64 cx, .slice A n k] 186)).alloc (.cells #[.int .i64 0, .int .i64 0, .int .i64 0, .int .i64 0, .slice none 0 0] 186)) (w.heap.size + 1) 186 #[.int .i64 0, .int .i64 0, .int .i64 0, .int .i64 0, .slice none 0 0] := Blk.new_at (by simp) _ _
  have qL : SlK ((w.alloc (.cells #[.int .i64 W, .int .i64 cap, .int .i64 ci, .int .i64 cx, .slice A n k] 186)).alloc (.cells #[.int .i64 0, .int .i64 0, .int .i64 0, .int .i64 0, .slice none 0 0] 186)) B A n 2 (lk ls) := (hL.alloc (by omega) _).alloc (by simp; omega) _
  have qD : Sl ((w.alloc (.cells #[.int .i64 W, .int .i64 cap, .int .i64 ci, .int .i64 cx, .slice A n k] 186)).alloc (.cells #[.int .i64 0, .int .i64 0, .int .i64 0, .int .i64 0, .slice none 0 0] 186)) B A0 n0 (l.map (Value.int .i64)) := (hS.alloc (by omega) _).alloc (by simp; omega) _
  have qC : Blk ((w.alloc (.cells #[.int .i64 W, .int .i64 cap, .int .i64 ci, .int .i64 cx, .slice A n k] 186)).alloc (.cells #[.int .i64 0, .int .i64 0, .int .i64 0, .int .i64 0, .slice none 0 0] 186)) g 257 #[.slice A0 n0 k0, .int .i64 at_, .int .i64 0] := (hC.alloc _).alloc _
  have qK : Keep g g w ((w.alloc (.cells #[.int .i64 W, .int .i64 cap, .int .i64 ci, .int .i64 cx, .slice A n k] 186)).alloc (.cells #[.int .i64 0, .int .i64 0, .int .i64 0, .int .i64 0, .slice none 0 0] 186)) := ((Keep.refl g g w).alloc _).alloc _
  have qz : ((w.alloc (.cells #[.int .i64 W, .int .i64 cap, .int .i64 ci, .int .i64 cx, .slice A n k] 186)).alloc (.cells #[.int .i64 0, .int .i64 0, .int .i64 0, .int .i64 0, .slice none 0 0] 186)).heap.size = w.heap.size + 2 := by simp
  clear hL hS hC hn
  go_enter Tryz.func172, Tryz.ntmps172
  go_upto_region 1 with (fail)
  generalize ((w.alloc (.cells #[.int .i64 W, .int .i64 cap, .int .i64 ci, .int .i64 cx, .slice A n k] 186)).alloc (.cells #[.int .i64 0, .int .i64 0, .int .i64 0, .int .i64 0, .slice none 0 0] 186)) = w0 at *
  have hw0 : w.heap.size + 2 ≤ w0.heap.size ∧ w0.heap.size ≤ w.heap.size + 2 := by omega
  clear qz
  have hl0 : w.heap.size < w0.heap.size := by omega
  have hl1 : w.heap.size + 1 < w0.heap.size := by omega
  have hl2 : g < w0.heap.size := by omega
  have X0 := hide qX
  have R0 := hide qR
  have L0 := hide qL
  have D0 := hide qD
  have C0 := hide qC
  have K0 := hide qK
  have g1 : w0.cell? ⟨w.heap.size, 1, none⟩ = some (.int .i64 cap) := qX.cell 1
  have g2 : w0.cell? ⟨w.heap.size, 2, none⟩ = some (.int .i64 ci) := qX.cell 2
  have g3 : w0.cell? ⟨w.heap.size, 3, none⟩ = some (.int .i64 cx) := qX.cell 3
  have g4 : w0.cell? ⟨w.heap.size, 4, none⟩ = some (.slice A n k) := qX.cell 4
  have s1 : w0.cell? ⟨g, 1, none⟩ = some (.int .i64 at_) := qC.cell 1
  clear qX qR qL qD qC qK
  go_upto_region 8 with (fail)
  clear z1 d1 d2 d3 s1
  go_upto_region 9 with (at_builtin; refine wpList_appendK _ rfl (.tmp 38) (.tmp 40) 184 rfl (w.heap.size + 2) 285 i0 (.agg #[.int .i64 0, .int .i64 0]) 2 16 Tryz.underlying184 hi0 hz0 hz1 hz2 rfl (by decide) (.slice (some ⟨w0.heap.size, 0, none⟩) 0 0) 0 [] rfl (OwnK.empty rfl (by omega)) B A n k (lk ls) rfl (L0.out.alloc (by omega) _) (lk_one _) n (by omega) (by simp only [maxLen]; omega) (by omega) (by simp; omega) ?_; intro A1 k1 w1' hown1 hg1)
  rw [List.nil_append] at hown1
  have O1 := hide hown1
  have hne : ∀ q, q < w0.heap.size → some q ≠ (Value.slice (some ⟨w0.heap.size, 0, none⟩) 0 0).ownBlock := fun q hq e => by simp [Value.ownBlock] at e; omega
  have X1 := hide ((X0.out.alloc _).grown hg1 (hne _ hl0))
  have R1 := hide ((R0.out.alloc _).grown hg1 (hne _ hl1))
  have C1 := hide ((C0.out.alloc _).grown hg1 (hne _ hl2))
  have K1 := hide ((K0.out.alloc _).grown hg1 (fun q hq => by simp [Value.ownBlock] at hq; omega))
  have hsz := hg1.size
  simp only [World.size_alloc] at hsz
  have D1 := hide (D0.out.keep (w' := w1') (fun b o hb => (hg1.cell_far ⟨b, o, none⟩ (by simp; omega) (hne b (by omega))).trans (below_cell ((Below.refl w0.heap.size w0).alloc (Nat.le_refl _) _) (by omega))))
  clear X0 R0 L0 D0 C0 K0 hown1 hg1 hne g1 g2 g3 g4 hl0 hl1 hl2 hw0
  have g0 : w1'.cell? ⟨w.heap.size, 0, none⟩ = some (.int .i64 W) := X1.out.cell 0
  have g3 : w1'.cell? ⟨w.heap.size, 3, none⟩ = some (.int .i64 cx) := X1.out.cell 3
  go_upto_region 10 with (fail)
  generalize hT : (cx == ci + 1) = tk0 at *
  have HT := hide hT
  clear hT
  go_cut [59] (fun s59 wx => s59 = .bool (outM W ⟨ci, cx, ls⟩) ∧ ∃ q, wx = w1'.drewN q)
  case first =>
    by_cases h0 : n = 0
    · have e0 : ls = [] := List.eq_nil_of_length_eq_zero (by have := HN.out; omega)
      have HO := hide (show outM W ⟨ci, cx, ls⟩ = false by rw [e0]; rfl)
      have d0 : decide ((0 : Int) < (n : Int)) = false := by simp; omega
      clear e0
      go_quiet (fail)
      go_wp2_with (fail)
      go_meet
      exact ⟨by rw [HO.out], nq, rfl⟩
    · obtain ⟨b, o, p, q, rfl, hbB, hpq, k0', k1'⟩ := O1.out.sl.link (show 0 < n by omega)
      simp only [Nat.zero_mul, Nat.add_zero] at k0'
      have d0 : decide ((0 : Int) < (n : Int)) = true := by simp; omega
      have hpos : 0 < n := by omega
      have hs1 : IntKind.i64.wrap (ci + 1 - W) = ci + 1 - W := IntWalk.i64_in _ (by omega)
      have HO := hide (show outM W ⟨ci, cx, ls⟩ = (p == ci + 1 - W) by
        cases ls with
        | nil => simp at hpq
        | cons x t => simp at hpq; subst hpq; unfold outM; simp [Bool.beq_eq_decide_eq])
      clear hpq k1'
      rcases hb : (p == ci + 1 - W) with _ | _
      all_goals
        go_quiet (fail)
        go_wp2_with (fail)
        go_meet
        exact ⟨by rw [HO.out, hb], nq, rfl⟩
  case rest =>
    obtain ⟨rfl, q, rfl⟩ := hcut
    have X2 := hide (X1.out.drewN q)
    have R2 := hide (R1.out.drewN q)
    have C2 := hide (C1.out.drewN q)
    have D2 := hide (D1.out.drewN q)
    have O2 := hide (O1.out.drewN q)
    have K2 : Hid (Keep g g w (w1'.drewN q)) := hide ⟨K1.out.os, K1.out.tape, K1.out.output, K1.out.size, K1.out.block⟩
    clear X1 R1 C1 D1 O1 K1 g0 g3
    generalize w1'.drewN q = w2 at *
    have hts : tk0 = decide (cx = ci + 1) := by have := HT.out; rw [← this]; simp [Bool.beq_eq_decide_eq]
    have HTS := hide hts
    clear hts HT
    go_upto_if 59 with (fail)
    go_cut [9, 10] (fun s9 s10 wx => ∃ (A9 : Option Addr) (k9 : Nat) (ls' : List (Int × Int)) (tk : Bool) (at' : Nat), s9 = .slice A9 ls'.length k9 ∧ s10 = .bool tk ∧ OwnK wx (w.heap.size + 2) 285 2 (.slice A9 ls'.length k9) ls'.length (lk ls') ∧ Blk wx w.heap.size 186 #[.int .i64 W, .int .i64 cap, .int .i64 ci, .int .i64 cx, .slice A n k] ∧ Blk wx (w.heap.size + 1) 186 #[.int .i64 0, .int .i64 0, .int .i64 0, .int .i64 0, .slice none 0 0] ∧ Blk wx g 257 #[.slice A0 n0 k0, .int .i64 at', .int .i64 0] ∧ Sl wx B A0 n0 (l.map (Value.int .i64)) ∧ at' ≤ n0 ∧ Keep g g w wx ∧ goM W cap (ci + 1) v cx ls' tk (l.drop at') = addM W cap ⟨ci, cx, ls⟩ v (l.drop at_) ∧ ls'.length ≤ n)
    case first =>
      cases ho : outM W ⟨ci, cx, ls⟩ with
      | true =>
        obtain ⟨p, t, ht, hp⟩ := outM_head ho
        simp only [] at ht hp
        have hnt : n = t.length + 1 := by have := HN.out; rw [ht] at this; simp at this; omega
        have HADD := hide (show goM W cap (ci + 1) v cx t tk0 (l.drop at_) = addM W cap ⟨ci, cx, ls⟩ v (l.drop at_) by
          unfold addM; rw [if_pos ho, HTS.out]; simp [ht])
        have HDR := hide (show (lk ls).drop (1 * 2) = lk t by rw [lk_drop, ht]; rfl)
        clear ho hp ht
        obtain ⟨b, o, rfl⟩ : ∃ b o, A1 = some ⟨b, o, none⟩ := by
          obtain ⟨b, o, e, _⟩ := O2.out.sl.2 (by omega)
          exact ⟨b, o, e⟩
        have hnk := O2.out.cap.1
        subst hnt
        by_cases hk1 : k1 = 1
        · subst hk1
          have ht0 : t = [] := List.eq_nil_of_length_eq_zero (by omega)
          subst ht0
          simp only [List.length_nil, Nat.zero_add] at *
          go_wp2
          go_meet
          exact ⟨some ⟨b, o, none⟩, 0, [], tk0, at_, rfl, rfl, O2.out.tail_end rfl, X2.out, R2.out, C2.out, D2.out, hat, K2.out, HADD.out, by simp⟩
        · have OT := hide (O2.out.tail (j := 1) (by omega))
          rw [HDR.out, show t.length + 1 - 1 = t.length by omega, show o + 1 * 2 = o + 2 by omega] at OT
          have hk2 : ¬ (k1 - 1 = 0) := by omega
          go_wp2
          go_meet
          exact ⟨some ⟨b, o + 2, none⟩, k1 - 1, t, tk0, at_, rfl, rfl, OT.out, X2.out, R2.out, C2.out, D2.out, hat, K2.out, HADD.out, by omega⟩
      | false =>
        have HO := hide ho
        clear ho
        have cs1 : w2.cell? ⟨g, 1, none⟩ = some (.int .i64 at_) := C2.out.cell 1
        have g0 : w2.cell? ⟨w.heap.size, 0, none⟩ = some (.int .i64 W) := X2.out.cell 0
        cases hds : l.drop at_ with
        | nil =>
          have hno := drop_none hds
          have HADD := hide (show addM W cap ⟨ci, cx, ls⟩ v [] = .need (min (ci + 1) W) by
            unfold addM; rw [if_neg (by rw [HO.out]; simp)])
          have HNO := hide hno
          have hgz : w.heap.size + 2 ≤ w2.heap.size := by have := R2.out.lt; omega
          clear hno hds
          go_wp2_with (fail)
          all_goals
            refine (src_none C2.out D2.out (by omega) HNO.out hat (by omega)).mono ?_
            rintro e w3 ⟨rfl, hC, hK⟩
            have C3 := hide hC
            have X3 := hide (hK.blk X2.out (by omega) (by omega))
            have R3 := hide (hK.blk R2.out (by omega) (by omega))
            have D3 := hide (hK.sl D2.out hB hB (by omega))
            have O3 := hide (O2.out.keep (fun q hq => hK.block q (O2.out.lt q hq).2 (fun e => by have := (O2.out.lt q hq).1; omega) (fun e => by have := (O2.out.lt q hq).1; omega)))
            have K3 := hide (K2.out.trans hK)
            have hz3 := hK.size
            clear hC hK C2 X2 R2 D2 O2 K2
            go_wp2_with (first | (refine wpList_build186 rfl rfl ?_) | (refine wpList_store_row rfl 186 (.tmp 6) (.tmp 73) rfl (w.heap.size + 1) #[.int .i64 0, .int .i64 0, .int .i64 0, .int .i64 0, .slice none 0 0] rfl rfl 186 #[.int .i64 0, .int .i64 0, .int .i64 0, .int .i64 0, .slice none 0 0] R3.out size186 rfl (by simp [Value.oneCell']) ?_))
            refine bodyPost_ret (res186 rfl _ rfl (R3.out.row _)) rfl ?_
            exact ⟨.inr ⟨_, _, by rw [HADD.out]; congr 1; omega, rfl, C3.out.row_far (by omega) _⟩, K3.out.row (by omega) _⟩
        | cons d t =>
          obtain ⟨hat1, ht⟩ := drop_at hds
          have hlt : at_ < n0 := by have := (List.getElem?_eq_some_iff.1 hat1).1; have := D2.out.len; omega
          have hgood : 0 ≤ d ∧ d < min (ci + 1) W := by
            by_cases hg : 0 ≤ d ∧ d < min (ci + 1) W
            · exact hg
            · exfalso; apply HBAD.out; rw [hds]; unfold addM; rw [if_neg (by rw [HO.out]; simp)]; simp only []; rw [if_neg hg]
          have HAT := hide hat1
          have hgz : w.heap.size + 2 ≤ w2.heap.size := by have := R2.out.lt; omega
          have HD0 := hide (fun (h0 : d = 0) => show goM W cap (ci + 1) v cx [] true (l.drop (at_ + 1)) = addM W cap ⟨ci, cx, ls⟩ v (d :: t) by
            unfold addM; rw [if_neg (by rw [HO.out]; simp), ← ht]; simp only []; rw [if_pos hgood, if_pos h0])
          have HD1 := hide (fun (h0 : ¬ d = 0) => show goM W cap (ci + 1) v cx ls tk0 (l.drop (at_ + 1)) = addM W cap ⟨ci, cx, ls⟩ v (d :: t) by
            unfold addM; rw [if_neg (by rw [HO.out]; simp), ← ht, HTS.out]; simp only []; rw [if_pos hgood, if_neg h0])
          obtain ⟨hg0, hg1⟩ := hgood
          have hg2 : d < ci + 1 ∧ d < W := by omega
          have HDS := hide hds
          clear hds hat1 ht hg1
          go_wp2_with (fail)
          all_goals
            refine (src_ok C2.out D2.out (by omega) HAT.out hg0 (by omega)).mono ?_
            rintro e w3 ⟨rfl, hC, hK⟩
            have C3 := hide hC
            have X3 := hide (hK.blk X2.out (by omega) (by omega))
            have R3 := hide (hK.blk R2.out (by omega) (by omega))
            have D3 := hide (hK.sl D2.out hB hB (by omega))
            have O3 := hide (O2.out.keep (fun q hq => hK.block q (O2.out.lt q hq).2 (fun e => by have := (O2.out.lt q hq).1; omega) (fun e => by have := (O2.out.lt q hq).1; omega)))
            have K3 := hide (K2.out.trans hK)
            have hz3 := hK.size
            clear hC hK C2 X2 R2 D2 O2 K2
            by_cases h0 : d = 0
            · have HDD := hide (HD0.out h0)
              have e0 : (d == 0) = true := by simp [h0]
              clear HD0 HD1 h0
              go_wp2
              go_meet
              exact ⟨none, 0, [], true, at_ + 1, rfl, rfl, OwnK.nil_ _ _ _ _, X3.out, R3.out, C3.out, D3.out, by omega, K3.out, by first | exact HDD.out | (rw [HDS.out]; exact HDD.out), by simp⟩
            · have HDD := hide (HD1.out h0)
              have e0 : (d == 0) = false := by simp [h0]
              clear HD0 HD1 h0
              go_wp2
              go_meet
              exact ⟨A1, k1, ls, tk0, at_ + 1, by rw [HN.out], rfl, by rw [HN.out]; exact O3.out, X3.out, R3.out, C3.out, D3.out, by omega, K3.out, by first | exact HDD.out | (rw [HDS.out]; exact HDD.out), by rw [HN.out]; omega⟩
    case rest =>
      obtain ⟨A9, k9, ls', tk, at', rfl, rfl, hO, hX, hR, hC, hD, hat', hK, hgo, hl9⟩ := hcut
      obtain ⟨wx, rfl⟩ : ∃ wx : World, wx = wc := ⟨_, rfl⟩
      have hnb : goM W cap (ci + 1) v cx ls' tk (l.drop at') ≠ .bad := by rw [hgo]; exact HBAD.out
      have O3 := hide hO
      have X3 := hide hX
      have R3 := hide hR
      have C3 := hide hC
      have D3 := hide hD
      have K3 := hide hK
      have HGO := hide hgo
      have HNB := hide hnb
      have hgz : w.heap.size + 2 ≤ wx.heap.size := by have := hR.lt; omega
      have hgl3 := hC.lt
      clear hO hX hR hC hD hK hgo hnb O2 X2 R2 C2 D2 K2 HBAD HVc HTS
      generalize hm : ls'.length = m at *
      have HM := hide hm
      clear hm
      cases tk with
      | false =>
        have HG := hide (show goM W cap (ci + 1) v cx ls' false (l.drop at') = .ok ⟨ci + 1, cx, ls'⟩ (l.drop at') by unfold goM; rw [if_neg (by simp)])
        have hc2 := X3.out.cell 2
        have hf2 := X3.out.frozen 2
        have hc4 := X3.out.cell 4
        have hf4 := X3.out.frozen 4
        go_upto_region 26 with (fail)
        have X7 := hide (show Blk ((wx.setCell ⟨w.heap.size, 2, none⟩ (.int .i64 (ci + 1))).setCell ⟨w.heap.size, 4, none⟩ (.slice A9 m k9)) w.heap.size 186 #[.int .i64 W, .int .i64 cap, .int .i64 (ci + 1), .int .i64 cx, .slice A9 m k9] by simpa using ((X3.out.set_ 2 (.int .i64 (ci + 1))).set_ 4 (.slice A9 m k9)))
        have C7 := hide ((C3.out.far (p := ⟨w.heap.size, 2, none⟩) (by simp; omega) (.int .i64 (ci + 1))).far (p := ⟨w.heap.size, 4, none⟩) (by simp; omega) (.slice A9 m k9))
        have R7 := hide ((R3.out.far (p := ⟨w.heap.size, 2, none⟩) (by simp) (.int .i64 (ci + 1))).far (p := ⟨w.heap.size, 4, none⟩) (by simp) (.slice A9 m k9))
        have O7 := hide ((O3.out.far (p := ⟨w.heap.size, 2, none⟩) (fun q hq => by have := (O3.out.lt q hq).1; simp; omega) (.int .i64 (ci + 1))).far (p := ⟨w.heap.size, 4, none⟩) (fun q hq => by have := (O3.out.lt q hq).1; simp; omega) (.slice A9 m k9))
        have K7 := hide ((K3.out.set_own (Nat.le_refl _) 2 (.int .i64 (ci + 1))).set_own (Nat.le_refl _) 4 (.slice A9 m k9))
        clear hc2 hf2 hc4 hf4 X3 C3 R3 O3 K3 D3
        generalize ((wx.setCell ⟨w.heap.size, 2, none⟩ (.int .i64 (ci + 1))).setCell ⟨w.heap.size, 4, none⟩ (.slice A9 m k9)) = w7 at *
        go_wp2_with (first | (refine wpList_load186 rfl (.tmp 3) rfl w.heap.size 186 rfl X7.out ?_) | (refine wpList_store_row rfl 186 (.tmp 6) (.tmp 110) rfl (w.heap.size + 1) #[.int .i64 W, .int .i64 cap, .int .i64 (ci + 1), .int .i64 cx, .slice A9 m k9] rfl rfl 186 #[.int .i64 0, .int .i64 0, .int .i64 0, .int .i64 0, .slice none 0 0] R7.out size186 rfl (by simp [Value.oneCell']) ?_))
        refine bodyPost_ret (res186 rfl _ rfl (R7.out.row _)) rfl ?_
        have O9 := O7.out.row_far (g' := w.heap.size + 1) (fun q hq => by have := (O7.out.lt q hq).1; omega) #[.int .i64 W, .int .i64 cap, .int .i64 (ci + 1), .int .i64 cx, .slice A9 m k9]
        exact ⟨.inl ⟨_, _, at', by rw [← HGO.out, HG.out], by omega, rfl, ⟨A9, k9, by simp [HM.out], by simpa [HM.out] using O9.mono (Nat.le_add_right w.heap.size 2)⟩, C7.out.row_far (by omega) _⟩, K7.out.row (by omega) _⟩
      | true =>
        have z1 : ((m : Int) == cap) = false := by simp; omega
        have g1 : wx.cell? ⟨w.heap.size, 1, none⟩ = some (.int .i64 cap) := X3.out.cell 1
        go_upto_region 21 with (at_builtin; refine wpList_appendK _ rfl (.tmp 84) (.tmp 88) 184 rfl (w.heap.size + 2) 285 i0 (.agg #[.int .i64 0, .int .i64 0]) 2 16 Tryz.underlying184 hi0 hz0 hz1 hz2 rfl (by decide) (.slice A9 m k9) m (lk ls') rfl (O3.out.alloc _) _ (some ⟨wx.heap.size, 0, none⟩) 1 1 [.int .i64 (ci + 1), .int .i64 v] rfl (SlK.one (l := [.int .i64 (ci + 1), .int .i64 v]) rfl rfl) (lk_one [(ci + 1, v)]) (m + 1) rfl (by simp only [maxLen]; omega) (by omega) (by simp; omega) ?_; intro A8 k8 w4 hown4 hg4)
        have hq3 := O3.out.lt
        have hne : ∀ q, q < w.heap.size + 2 → some q ≠ (Value.slice A9 m k9).ownBlock := fun q hq e => by have := (hq3 q e.symm).1; omega
        have O4 := hide (show OwnK w4 (w.heap.size + 2) 285 2 (.slice A8 (m + 1) k8) (m + 1) (lk (ls' ++ [(ci + 1, v)])) by rw [lk_append]; exact hown4)
        have X4 := hide ((X3.out.alloc _).grown hg4 (hne _ (by omega)))
        have R4 := hide ((R3.out.alloc _).grown hg4 (hne _ (by omega)))
        have C4 := hide ((C3.out.alloc _).grown hg4 (hne _ (by omega)))
        have K4 := hide ((K3.out.alloc _).grown hg4 (fun q hq => by have := (hq3 q hq).1; omega))
        have hsz4 := hg4.size
        simp only [World.size_alloc] at hsz4
        have D4 := hide (D3.out.keep (w' := w4) (fun b o hb => (hg4.cell_far ⟨b, o, none⟩ (by simp; omega) (hne b (by omega))).trans (below_cell ((Below.refl wx.heap.size wx).alloc (Nat.le_refl _) _) (by omega))))
        clear O3 X3 R3 C3 D3 K3 hown4 hg4 hq3 hne g1 z1
        have g0 : w4.cell? ⟨w.heap.size, 0, none⟩ = some (.int .i64 W) := X4.out.cell 0
        cases hds : l.drop at' with
        | nil =>
          have hno := drop_none hds
          have HNO := hide hno
          have HG := hide (show goM W cap (ci + 1) v cx ls' true (l.drop at') = .need W by unfold goM; rw [if_pos rfl, if_neg (by rw [HM.out]; omega), hds])
          clear hno hds
          go_wp2_with (fail)
          refine (src_none C4.out D4.out (by omega) HNO.out hat' (by omega)).mono ?_
          rintro e w5 ⟨rfl, hC, hK⟩
          have C5 := hide hC
          have X5 := hide (hK.blk X4.out (by omega) (by omega))
          have R5 := hide (hK.blk R4.out (by omega) (by omega))
          have D5 := hide (hK.sl D4.out hB hB (by omega))
          have O5 := hide (O4.out.keep (fun q hq => hK.block q (O4.out.lt q hq).2 (fun e => by have := (O4.out.lt q hq).1; omega) (fun e => by have := (O4.out.lt q hq).1; omega)))
          have K5 := hide (K4.out.trans hK)
          have hz5 := hK.size
          clear hC hK C4 X4 R4 D4 O4 K4
          clear g0
          go_wp2_with (first | (refine wpList_build186 rfl rfl ?_) | (refine wpList_store_row rfl 186 (.tmp 6) (.tmp 99) rfl (w.heap.size + 1) #[.int .i64 0, .int .i64 0, .int .i64 0, .int .i64 0, .slice none 0 0] rfl rfl 186 #[.int .i64 0, .int .i64 0, .int .i64 0, .int .i64 0, .slice none 0 0] R5.out size186 rfl (by simp [Value.oneCell']) ?_))
          refine bodyPost_ret (res186 rfl _ rfl (R5.out.row _)) rfl ?_
          exact ⟨.inr ⟨_, _, by rw [← HGO.out, HG.out], rfl, C5.out.row_far (by omega) _⟩, K5.out.row (by omega) _⟩
        | cons d t =>
          obtain ⟨hat1, ht⟩ := drop_at hds
          have hlt : at' < n0 := by have := (List.getElem?_eq_some_iff.1 hat1).1; have := D4.out.len; omega
          have hgood : 0 ≤ d ∧ d < W := by
            by_cases hg : 0 ≤ d ∧ d < W
            · exact hg
            · exfalso; apply HNB.out; rw [hds]; unfold goM; rw [if_pos rfl, if_neg (by rw [HM.out]; omega)]; simp only []; rw [if_neg hg]
          have HAT := hide hat1
          have HG := hide (show goM W cap (ci + 1) v cx ls' true (l.drop at') = .ok ⟨ci + 1, ci + 1 + 1 + d, ls' ++ [(ci + 1, v)]⟩ (l.drop (at' + 1)) by
            rw [hds, ← ht]; unfold goM; rw [if_pos rfl, if_neg (by rw [HM.out]; omega)]; simp only []; rw [if_pos hgood])
          obtain ⟨hg0, hg1⟩ := hgood
          clear hds hat1 ht
          go_wp2_with (fail)
          refine (src_ok C4.out D4.out (by omega) HAT.out hg0 hg1).mono ?_
          rintro e w5 ⟨rfl, hC, hK⟩
          have C5 := hide hC
          have X5 := hide (hK.blk X4.out (by omega) (by omega))
          have R5 := hide (hK.blk R4.out (by omega) (by omega))
          have D5 := hide (hK.sl D4.out hB hB (by omega))
          have O5 := hide (O4.out.keep (fun q hq => hK.block q (O4.out.lt q hq).2 (fun e => by have := (O4.out.lt q hq).1; omega) (fun e => by have := (O4.out.lt q hq).1; omega)))
          have K5 := hide (K4.out.trans hK)
          have hz5 := hK.size
          clear hC hK C4 X4 R4 D4 O4 K4
          clear g0
          have hc3 := X5.out.cell 3
          have hf3 := X5.out.frozen 3
          have hc2 := X5.out.cell 2
          have hf2 := X5.out.frozen 2
          have hc4 := X5.out.cell 4
          have hf4 := X5.out.frozen 4
          go_upto_region 26 with (fail)
          have X9 := hide (show Blk (((w5.setCell ⟨w.heap.size, 3, none⟩ (.int .i64 (ci + 1 + 1 + d))).setCell ⟨w.heap.size, 2, none⟩ (.int .i64 (ci + 1))).setCell ⟨w.heap.size, 4, none⟩ (.slice A8 (m + 1) k8)) w.heap.size 186 #[.int .i64 W, .int .i64 cap, .int .i64 (ci + 1), .int .i64 (ci + 1 + 1 + d), .slice A8 (m + 1) k8] by simpa using (((X5.out.set_ 3 (.int .i64 (ci + 1 + 1 + d))).set_ 2 (.int .i64 (ci + 1))).set_ 4 (.slice A8 (m + 1) k8)))
          have C9 := hide (((C5.out.far (p := ⟨w.heap.size, 3, none⟩) (by simp; omega) (.int .i64 (ci + 1 + 1 + d))).far (p := ⟨w.heap.size, 2, none⟩) (by simp; omega) (.int .i64 (ci + 1))).far (p := ⟨w.heap.size, 4, none⟩) (by simp; omega) (.slice A8 (m + 1) k8))
          have R9 := hide (((R5.out.far (p := ⟨w.heap.size, 3, none⟩) (by simp) (.int .i64 (ci + 1 + 1 + d))).far (p := ⟨w.heap.size, 2, none⟩) (by simp) (.int .i64 (ci + 1))).far (p := ⟨w.heap.size, 4, none⟩) (by simp) (.slice A8 (m + 1) k8))
          have O9 := hide (((O5.out.far (p := ⟨w.heap.size, 3, none⟩) (fun q hq => by have := (O5.out.lt q hq).1; simp; omega) (.int .i64 (ci + 1 + 1 + d))).far (p := ⟨w.heap.size, 2, none⟩) (fun q hq => by have := (O5.out.lt q hq).1; simp; omega) (.int .i64 (ci + 1))).far (p := ⟨w.heap.size, 4, none⟩) (fun q hq => by have := (O5.out.lt q hq).1; simp; omega) (.slice A8 (m + 1) k8))
          have K9 := hide (((K5.out.set_own (Nat.le_refl _) 3 (.int .i64 (ci + 1 + 1 + d))).set_own (Nat.le_refl _) 2 (.int .i64 (ci + 1))).set_own (Nat.le_refl _) 4 (.slice A8 (m + 1) k8))
          clear hc3 hf3 hc2 hf2 hc4 hf4 X5 C5 R5 O5 K5 D5
          generalize (((w5.setCell ⟨w.heap.size, 3, none⟩ (.int .i64 (ci + 1 + 1 + d))).setCell ⟨w.heap.size, 2, none⟩ (.int .i64 (ci + 1))).setCell ⟨w.heap.size, 4, none⟩ (.slice A8 (m + 1) k8)) = w9 at *
          go_wp2_with (first | (refine wpList_load186 rfl (.tmp 3) rfl w.heap.size 186 rfl X9.out ?_) | (refine wpList_store_row rfl 186 (.tmp 6) (.tmp 110) rfl (w.heap.size + 1) #[.int .i64 W, .int .i64 cap, .int .i64 (ci + 1), .int .i64 (ci + 1 + 1 + d), .slice A8 (m + 1) k8] rfl rfl 186 #[.int .i64 0, .int .i64 0, .int .i64 0, .int .i64 0, .slice none 0 0] R9.out size186 rfl (by simp [Value.oneCell']) ?_))
          refine bodyPost_ret (res186 rfl _ rfl (R9.out.row _)) rfl ?_
          have O9 := O9.out.row_far (g' := w.heap.size + 1) (fun q hq => by have := (O9.out.lt q hq).1; omega) #[.int .i64 W, .int .i64 cap, .int .i64 (ci + 1), .int .i64 (ci + 1 + 1 + d), .slice A8 (m + 1) k8]
          exact ⟨.inl ⟨_, _, (at' + 1), by rw [← HGO.out, HG.out], by omega, rfl, ⟨A8, k8, by simp [HM.out], by simpa [HM.out] using O9.mono (Nat.le_add_right w.heap.size 2)⟩, C9.out.row_far (by omega) _⟩, K9.out.row (by omega) _⟩
end Go.Proofs.YtbageimconenlaaGreat
