/- A reply by the reference: the contract. -/
import Derived.Test.YtlcgpldngooekaaCO
import Derived.Test.YtlcgpldngooekaaCR
import Derived.Test.YtlcgpldngooekaaTDR
namespace Go.Proofs.Ytlcgpldngooekaa
open Go.RowKit
set_option linter.unusedVariables false
set_option maxRecDepth 100000 in
set_option maxHeartbeats 2000000 in
theorem rdecr_any (AB : Option Addr) (nb cbb : Nat) (l : List Int) (w : World) (hS : Sl w w.heap.size AB nb (l.map (Value.int .u8))) (hb : Bytes l) (hnb : nb ≤ 1000000) :
    Calls Try.prog 36 #[.slice AB nb cbb] w (DecR l nb w) := by
  have hl := hS.len
  have C43 := hide (open_any AB nb cbb l (w.alloc (.cells #[.int .i64 0, .int .i64 0, .int .i64 0, .int .i64 0, .int .i64 0, .int .i64 0, .int .i64 0, .slice none 0 0, .int .u64 0, .int .u64 0, .int .u64 0, .int .u64 0, .slice none 0 0, .slice none 0 0] 65)) ((hS.alloc (Nat.le_refl _) (.cells #[.int .i64 0, .int .i64 0, .int .i64 0, .int .i64 0, .int .i64 0, .int .i64 0, .int .i64 0, .slice none 0 0, .int .u64 0, .int .u64 0, .int .u64 0, .int .u64 0, .slice none 0 0, .slice none 0 0] 65)).more (by simp)) hb hnb)
  have R0 := hide (Blk.new_at (w := w) rfl 65 #[.int .i64 0, .int .i64 0, .int .i64 0, .int .i64 0, .int .i64 0, .int .i64 0, .int .i64 0, .slice none 0 0, .int .u64 0, .int .u64 0, .int .u64 0, .int .u64 0, .slice none 0 0, .slice none 0 0])
  have B0 := hide ((Below.refl w.heap.size w).alloc (Nat.le_refl _) (.cells #[.int .i64 0, .int .i64 0, .int .i64 0, .int .i64 0, .int .i64 0, .int .i64 0, .int .i64 0, .slice none 0 0, .int .u64 0, .int .u64 0, .int .u64 0, .int .u64 0, .slice none 0 0, .slice none 0 0] 65))
  have hs0 : w.heap.size < (w.alloc (.cells #[.int .i64 0, .int .i64 0, .int .i64 0, .int .i64 0, .int .i64 0, .int .i64 0, .int .i64 0, .slice none 0 0, .int .u64 0, .int .u64 0, .int .u64 0, .int .u64 0, .slice none 0 0, .slice none 0 0] 65)).heap.size := by simp
  clear hS
  unfold OpenR at C43
  go_enter Try.func36, Try.ntmps36
  go_upto_region 2 with (go_at_call 43; refine C43.out.mono ?_; rintro e wo ⟨A, n, c, cb, L, ok, rfl, hok, hC, hS, hi, hnl, hcb, hbl⟩)
  have R1' := hide (R0.out.below hbl hs0)
  have B1 := hide (B0.out.trans (hbl.mono (by simp)))
  have HC := hide hC
  have HS := hide hS
  have HI := hide hi
  have HOK := hide hok
  have hn : n ≤ 1000000000 := by omega
  have hnl2 : n ≤ nb := by omega
  have hcb2 : w.heap.size < cb := by simp at hcb; omega
  have hcl := hC.1.lt
  have HL := hide hS.len
  have HLB := hide hl
  clear hC hS hi hok hbl hcb R0 B0 hs0 C43 hl hnl hn hb
  have hn : n ≤ 1000000000 := by omega
  cases ok with
  | false =>
    have hv : numsF l.length l 0 = none := by rcases HOK.out with h | h; (· exact absurd h.1 (by simp)); (· exact h.2)
    have HV := hide hv
    clear hv
    go_upto_region 3 with (fail)
    refine wp_region_list ?_
    refine wpList_build65 rfl rfl ?_
    refine wpList_store_row rfl 65 (.tmp 2) (.tmp 14) rfl w.heap.size #[.int .i64 0, .int .i64 0, .int .i64 0, .int .i64 0, .int .i64 0, .int .i64 0, .int .i64 0, .slice none 0 0, .int .u64 0, .int .u64 0, .int .u64 0, .int .u64 0, .slice none 0 0, .slice none 0 0] rfl rfl 65 #[.int .i64 0, .int .i64 0, .int .i64 0, .int .i64 0, .int .i64 0, .int .i64 0, .int .i64 0, .slice none 0 0, .int .u64 0, .int .u64 0, .int .u64 0, .int .u64 0, .slice none 0 0, .slice none 0 0] R1'.out size65 rfl (by simp [Value.oneCell']) ?_
    go_wp2
    refine bodyPost_ret (res65 rfl _ rfl (R1'.out.row _)) rfl ?_
    exact ⟨_, RepD.zero, 13, rfl, ⟨none, 0, none, 0, none, 0, rfl, Sl.none_, Sl.none_, Sl.none_⟩, RepD.zero_ok, by simp [RepD.zero], by simp [RepD.zero], by simp [RepD.zero], .inr ⟨rfl, rfl, fun y _ hc => by rw [HV.out] at hc; cases hc⟩, below_row B1.out (Nat.le_refl _) _⟩
  | true =>
    have hv : numsF l.length l 0 = some L := by rcases HOK.out with h | h; (· exact h.2); (· exact absurd h.1 (by simp))
    have HV := hide hv
    have C1 := hide (show CR L A n c (wo.alloc (.cells #[.int .i64 0, .int .i64 0, .int .i64 0, .int .i64 0, .int .i64 0, .int .i64 0, .int .i64 0, .slice none 0 0, .int .u64 0, .int .u64 0, .int .u64 0, .int .u64 0, .slice none 0 0, .slice none 0 0] 65)) cb 0 false from ⟨HC.out.1.alloc _, HC.out.2⟩)
    have S1 := hide (HS.out.alloc (Nat.le_of_lt hcl) (.cells #[.int .i64 0, .int .i64 0, .int .i64 0, .int .i64 0, .int .i64 0, .int .i64 0, .int .i64 0, .slice none 0 0, .int .u64 0, .int .u64 0, .int .u64 0, .int .u64 0, .slice none 0 0, .slice none 0 0] 65))
    have R1 := hide (R1'.out.alloc (.cells #[.int .i64 0, .int .i64 0, .int .i64 0, .int .i64 0, .int .i64 0, .int .i64 0, .int .i64 0, .slice none 0 0, .int .u64 0, .int .u64 0, .int .u64 0, .int .u64 0, .slice none 0 0, .slice none 0 0] 65))
    have G1 := hide (Blk.new_at (w := wo) rfl 65 #[.int .i64 0, .int .i64 0, .int .i64 0, .int .i64 0, .int .i64 0, .int .i64 0, .int .i64 0, .slice none 0 0, .int .u64 0, .int .u64 0, .int .u64 0, .int .u64 0, .slice none 0 0, .slice none 0 0])
    have K1 := hide ((Keep.refl cb cb wo).alloc (.cells #[.int .i64 0, .int .i64 0, .int .i64 0, .int .i64 0, .int .i64 0, .int .i64 0, .int .i64 0, .slice none 0 0, .int .u64 0, .int .u64 0, .int .u64 0, .int .u64 0, .slice none 0 0, .slice none 0 0] 65))
    have hcg : cb ≠ wo.heap.size := by omega
    have hcbg : cb ≤ wo.heap.size := by omega
    have hgw : wo.heap.size ≤ wo.heap.size := by omega
    have hrg : w.heap.size ≠ wo.heap.size := by omega
    have hrc : w.heap.size ≠ cb := by omega
    have hg1 : wo.heap.size < (wo.alloc (.cells #[.int .i64 0, .int .i64 0, .int .i64 0, .int .i64 0, .int .i64 0, .int .i64 0, .int .i64 0, .slice none 0 0, .int .u64 0, .int .u64 0, .int .u64 0, .int .u64 0, .slice none 0 0, .slice none 0 0] 65)).heap.size := by simp
    clear hv HC HS R1'
    go_wp2_with (fail)
    generalize (wo.alloc (.cells #[.int .i64 0, .int .i64 0, .int .i64 0, .int .i64 0, .int .i64 0, .int .i64 0, .int .i64 0, .slice none 0 0, .int .u64 0, .int .u64 0, .int .u64 0, .int .u64 0, .slice none 0 0, .slice none 0 0] 65)) = w1 at *
    have hw1 : wo.heap.size ≤ w1.heap.size := K1.out.size
    refine (take_any C1.out S1.out HI.out hn (Nat.le_refl _)).mono ?_
    rintro e w2 ⟨x0, a2, b2, rfl, hf, ht, hC, _, hK⟩
    have F0 := hide hf
    have U0 := hide ht
    have C2 := hide hC
    have S2 := hide (hK.sl S1.out (Nat.le_refl _) (Nat.le_refl _) (Nat.le_of_lt C1.out.1.lt))
    have G2 := hide (hK.blk G1.out (Ne.symm hcg) (Ne.symm hcg))
    have R2 := hide (hK.blk R1.out hrc hrc)
    have K2 := hide (K1.out.trans hK)
    have hw2 : wo.heap.size ≤ w2.heap.size := K2.out.size
    clear hf ht hC hK hw1 C1 S1 K1 G1 R1
    have gc0 := G2.out.cell 0
    have gf0 := G2.out.frozen 0
    go_wp2_with (fail)
    have G3 := hide (show Blk (w2.setCell ⟨wo.heap.size, 0, none⟩ (.int .i64 x0)) wo.heap.size 65 #[.int .i64 x0, .int .i64 0, .int .i64 0, .int .i64 0, .int .i64 0, .int .i64 0, .int .i64 0, .slice none 0 0, .int .u64 0, .int .u64 0, .int .u64 0, .int .u64 0, .slice none 0 0, .slice none 0 0] by simpa using (G2.out.set_ 0 (.int .i64 x0)))
    have C3 := hide (show CR L A n c (w2.setCell ⟨wo.heap.size, 0, none⟩ (.int .i64 x0)) cb a2 b2 from ⟨(C2.out.1.far (p := ⟨wo.heap.size, 0, none⟩) hcg (.int .i64 x0)), C2.out.2⟩)
    have S3 := hide (S2.out.below ((Below.refl cb w2).setCell (p := ⟨wo.heap.size, 0, none⟩) hcbg (.int .i64 x0)))
    have K3 := hide (K2.out.set_own hgw 0 (.int .i64 x0))
    have R3 := hide (R2.out.far (p := ⟨wo.heap.size, 0, none⟩) hrg (.int .i64 x0))
    clear gc0 gf0 C2 S2 K2 G2 R2
    generalize (w2.setCell ⟨wo.heap.size, 0, none⟩ (.int .i64 x0)) = w3 at *
    have hw3 : wo.heap.size ≤ w3.heap.size := K3.out.size
    clear hw2
    refine (cratio_any C3.out S3.out HI.out hn).mono ?_
    rintro e w4 ⟨x1, x2, a4, b4, s4, rfl, hf, hf2, ht, ht2, hC, hK⟩
    have F1 := hide hf
    have U1 := hide ht
    have F2 := hide hf2
    have U2 := hide ht2
    have C4 := hide hC
    have S4 := hide (hK.sl S3.out (Nat.le_refl _) (Nat.le_refl _) (Nat.le_of_lt C3.out.1.lt))
    have G4 := hide (hK.blk G3.out (Ne.symm hcg) (Ne.symm hcg))
    have R4 := hide (hK.blk R3.out hrc hrc)
    have K4 := hide (K3.out.trans hK)
    have hw4 : wo.heap.size ≤ w4.heap.size := K4.out.size
    clear hf ht hf2 ht2 hC hK hw3 C3 S3 K3 G3 R3
    have gc1 := G4.out.cell 1
    have gf1 := G4.out.frozen 1
    have gc2 := G4.out.cell 2
    have gf2 := G4.out.frozen 2
    go_wp2_with (fail)
    have G5 := hide (show Blk ((w4.setCell ⟨wo.heap.size, 1, none⟩ (.int .i64 x1)).setCell ⟨wo.heap.size, 2, none⟩ (.int .i64 x2)) wo.heap.size 65 #[.int .i64 x0, .int .i64 x1, .int .i64 x2, .int .i64 0, .int .i64 0, .int .i64 0, .int .i64 0, .slice none 0 0, .int .u64 0, .int .u64 0, .int .u64 0, .int .u64 0, .slice none 0 0, .slice none 0 0] by simpa using ((G4.out.set_ 1 (.int .i64 x1)).set_ 2 (.int .i64 x2)))
    have C5 := hide (show CR L A n c ((w4.setCell ⟨wo.heap.size, 1, none⟩ (.int .i64 x1)).setCell ⟨wo.heap.size, 2, none⟩ (.int .i64 x2)) cb a4 b4 from ⟨((C4.out.1.far (p := ⟨wo.heap.size, 1, none⟩) hcg (.int .i64 x1)).far (p := ⟨wo.heap.size, 2, none⟩) hcg (.int .i64 x2)), C4.out.2⟩)
    have S5 := hide (S4.out.below (((Below.refl cb w4).setCell (p := ⟨wo.heap.size, 1, none⟩) hcbg (.int .i64 x1)).setCell (p := ⟨wo.heap.size, 2, none⟩) hcbg (.int .i64 x2)))
    have K5 := hide ((K4.out.set_own hgw 1 (.int .i64 x1)).set_own hgw 2 (.int .i64 x2))
    have R5 := hide ((R4.out.far (p := ⟨wo.heap.size, 1, none⟩) hrg (.int .i64 x1)).far (p := ⟨wo.heap.size, 2, none⟩) hrg (.int .i64 x2))
    clear gc1 gf1 gc2 gf2 C4 S4 K4 G4 R4
    generalize ((w4.setCell ⟨wo.heap.size, 1, none⟩ (.int .i64 x1)).setCell ⟨wo.heap.size, 2, none⟩ (.int .i64 x2)) = w5 at *
    have hw5 : wo.heap.size ≤ w5.heap.size := K5.out.size
    clear hw4
    refine (cratio_any C5.out S5.out HI.out hn).mono ?_
    rintro e w6 ⟨x3, x4, a6, b6, s6, rfl, hf, hf2, ht, ht2, hC, hK⟩
    have F3 := hide hf
    have U3 := hide ht
    have F4 := hide hf2
    have U4 := hide ht2
    have C6 := hide hC
    have S6 := hide (hK.sl S5.out (Nat.le_refl _) (Nat.le_refl _) (Nat.le_of_lt C5.out.1.lt))
    have G6 := hide (hK.blk G5.out (Ne.symm hcg) (Ne.symm hcg))
    have R6 := hide (hK.blk R5.out hrc hrc)
    have K6 := hide (K5.out.trans hK)
    have hw6 : wo.heap.size ≤ w6.heap.size := K6.out.size
    clear hf ht hf2 ht2 hC hK hw5 C5 S5 K5 G5 R5
    have gc3 := G6.out.cell 3
    have gf3 := G6.out.frozen 3
    have gc4 := G6.out.cell 4
    have gf4 := G6.out.frozen 4
    go_wp2_with (fail)
    have G7 := hide (show Blk ((w6.setCell ⟨wo.heap.size, 3, none⟩ (.int .i64 x3)).setCell ⟨wo.heap.size, 4, none⟩ (.int .i64 x4)) wo.heap.size 65 #[.int .i64 x0, .int .i64 x1, .int .i64 x2, .int .i64 x3, .int .i64 x4, .int .i64 0, .int .i64 0, .slice none 0 0, .int .u64 0, .int .u64 0, .int .u64 0, .int .u64 0, .slice none 0 0, .slice none 0 0] by simpa using ((G6.out.set_ 3 (.int .i64 x3)).set_ 4 (.int .i64 x4)))
    have C7 := hide (show CR L A n c ((w6.setCell ⟨wo.heap.size, 3, none⟩ (.int .i64 x3)).setCell ⟨wo.heap.size, 4, none⟩ (.int .i64 x4)) cb a6 b6 from ⟨((C6.out.1.far (p := ⟨wo.heap.size, 3, none⟩) hcg (.int .i64 x3)).far (p := ⟨wo.heap.size, 4, none⟩) hcg (.int .i64 x4)), C6.out.2⟩)
    have S7 := hide (S6.out.below (((Below.refl cb w6).setCell (p := ⟨wo.heap.size, 3, none⟩) hcbg (.int .i64 x3)).setCell (p := ⟨wo.heap.size, 4, none⟩) hcbg (.int .i64 x4)))
    have K7 := hide ((K6.out.set_own hgw 3 (.int .i64 x3)).set_own hgw 4 (.int .i64 x4))
    have R7 := hide ((R6.out.far (p := ⟨wo.heap.size, 3, none⟩) hrg (.int .i64 x3)).far (p := ⟨wo.heap.size, 4, none⟩) hrg (.int .i64 x4))
    clear gc3 gf3 gc4 gf4 C6 S6 K6 G6 R6
    generalize ((w6.setCell ⟨wo.heap.size, 3, none⟩ (.int .i64 x3)).setCell ⟨wo.heap.size, 4, none⟩ (.int .i64 x4)) = w7 at *
    have hw7 : wo.heap.size ≤ w7.heap.size := K7.out.size
    clear hw6
    refine (cratio_any C7.out S7.out HI.out hn).mono ?_
    rintro e w8 ⟨x5, x6, a8, b8, s8, rfl, hf, hf2, ht, ht2, hC, hK⟩
    have F5 := hide hf
    have U5 := hide ht
    have F6 := hide hf2
    have U6 := hide ht2
    have C8 := hide hC
    have S8 := hide (hK.sl S7.out (Nat.le_refl _) (Nat.le_refl _) (Nat.le_of_lt C7.out.1.lt))
    have G8 := hide (hK.blk G7.out (Ne.symm hcg) (Ne.symm hcg))
    have R8 := hide (hK.blk R7.out hrc hrc)
    have K8 := hide (K7.out.trans hK)
    have hw8 : wo.heap.size ≤ w8.heap.size := K8.out.size
    clear hf ht hf2 ht2 hC hK hw7 C7 S7 K7 G7 R7
    have gc5 := G8.out.cell 5
    have gf5 := G8.out.frozen 5
    have gc6 := G8.out.cell 6
    have gf6 := G8.out.frozen 6
    go_wp2_with (fail)
    have G9 := hide (show Blk ((w8.setCell ⟨wo.heap.size, 5, none⟩ (.int .i64 x5)).setCell ⟨wo.heap.size, 6, none⟩ (.int .i64 x6)) wo.heap.size 65 #[.int .i64 x0, .int .i64 x1, .int .i64 x2, .int .i64 x3, .int .i64 x4, .int .i64 x5, .int .i64 x6, .slice none 0 0, .int .u64 0, .int .u64 0, .int .u64 0, .int .u64 0, .slice none 0 0, .slice none 0 0] by simpa using ((G8.out.set_ 5 (.int .i64 x5)).set_ 6 (.int .i64 x6)))
    have C9 := hide (show CR L A n c ((w8.setCell ⟨wo.heap.size, 5, none⟩ (.int .i64 x5)).setCell ⟨wo.heap.size, 6, none⟩ (.int .i64 x6)) cb a8 b8 from ⟨((C8.out.1.far (p := ⟨wo.heap.size, 5, none⟩) hcg (.int .i64 x5)).far (p := ⟨wo.heap.size, 6, none⟩) hcg (.int .i64 x6)), C8.out.2⟩)
    have S9 := hide (S8.out.below (((Below.refl cb w8).setCell (p := ⟨wo.heap.size, 5, none⟩) hcbg (.int .i64 x5)).setCell (p := ⟨wo.heap.size, 6, none⟩) hcbg (.int .i64 x6)))
    have K9 := hide ((K8.out.set_own hgw 5 (.int .i64 x5)).set_own hgw 6 (.int .i64 x6))
    have R9 := hide ((R8.out.far (p := ⟨wo.heap.size, 5, none⟩) hrg (.int .i64 x5)).far (p := ⟨wo.heap.size, 6, none⟩) hrg (.int .i64 x6))
    clear gc5 gf5 gc6 gf6 C8 S8 K8 G8 R8
    generalize ((w8.setCell ⟨wo.heap.size, 5, none⟩ (.int .i64 x5)).setCell ⟨wo.heap.size, 6, none⟩ (.int .i64 x6)) = w9 at *
    have hw9 : wo.heap.size ≤ w9.heap.size := K9.out.size
    clear hw8
    have hgv9 : wo.heap.size < w9.heap.size := G9.out.lt
    refine (clist_any C9.out S9.out HI.out hn (Nat.le_refl _)).mono ?_
    rintro e w10 ⟨vs, A1, c1, a10, b10, rfl, ht, hf, hlen, hC, hO, hK⟩
    have Fvs := hide hf
    have U7 := hide ht
    have Lvs := hide hlen
    have hrow_D : ∀ q, (Value.slice A1 vs.length c1).ownBlock = some q → q ≠ wo.heap.size := fun q hq => by have := (hO.lt q hq).1; omega
    have hcow_D : ∀ q, (Value.slice A1 vs.length c1).ownBlock = some q → q ≠ cb := fun q hq => by have := (hO.lt q hq).1; omega
    have hres_D : ∀ q, (Value.slice A1 vs.length c1).ownBlock = some q → q ≠ w.heap.size := fun q hq => by have := (hO.lt q hq).1; omega
    have D10 := hide (own_mono hO (show wo.heap.size ≤ w9.heap.size by omega))
    have C10 := hide hC
    have S10 := hide (hK.sl S9.out (Nat.le_refl _) (Nat.le_refl _) (Nat.le_of_lt C9.out.1.lt))
    have G10 := hide (hK.blk G9.out (Ne.symm hcg) (Ne.symm hcg))
    have R10 := hide (hK.blk R9.out hrc hrc)
    have K10 := hide (K9.out.trans hK)
    have hw10 : wo.heap.size ≤ w10.heap.size := K10.out.size
    clear hf ht hlen hC hO hK hgv9 hw9 C9 S9 K9 G9 R9
    have gc7 := G10.out.cell 7
    have gf7 := G10.out.frozen 7
    go_wp2_with (fail)
    have G11 := hide (show Blk (w10.setCell ⟨wo.heap.size, 7, none⟩ (.slice A1 vs.length c1)) wo.heap.size 65 #[.int .i64 x0, .int .i64 x1, .int .i64 x2, .int .i64 x3, .int .i64 x4, .int .i64 x5, .int .i64 x6, .slice A1 vs.length c1, .int .u64 0, .int .u64 0, .int .u64 0, .int .u64 0, .slice none 0 0, .slice none 0 0] by simpa using (G10.out.set_ 7 (.slice A1 vs.length c1)))
    have C11 := hide (show CR L A n c (w10.setCell ⟨wo.heap.size, 7, none⟩ (.slice A1 vs.length c1)) cb a10 b10 from ⟨(C10.out.1.far (p := ⟨wo.heap.size, 7, none⟩) hcg (.slice A1 vs.length c1)), C10.out.2⟩)
    have S11 := hide (S10.out.below ((Below.refl cb w10).setCell (p := ⟨wo.heap.size, 7, none⟩) hcbg (.slice A1 vs.length c1)))
    have K11 := hide (K10.out.set_own hgw 7 (.slice A1 vs.length c1))
    have R11 := hide (R10.out.far (p := ⟨wo.heap.size, 7, none⟩) hrg (.slice A1 vs.length c1))
    have D11 := hide (own_far1 D10.out (p := ⟨wo.heap.size, 7, none⟩) (fun q hq => hrow_D q hq) (.slice A1 vs.length c1))
    clear gc7 gf7 C10 S10 K10 G10 R10 D10
    generalize (w10.setCell ⟨wo.heap.size, 7, none⟩ (.slice A1 vs.length c1)) = w11 at *
    have hw11 : wo.heap.size ≤ w11.heap.size := K11.out.size
    clear hw10
    refine (cwide_any C11.out S11.out HI.out hn).mono ?_
    rintro e w12 ⟨x8, x9, a12, b12, s12, rfl, hf, hf2, ht, ht2, hC, hK⟩
    have F8 := hide hf
    have U8 := hide ht
    have F9 := hide hf2
    have U9 := hide ht2
    have C12 := hide hC
    have S12 := hide (hK.sl S11.out (Nat.le_refl _) (Nat.le_refl _) (Nat.le_of_lt C11.out.1.lt))
    have G12 := hide (hK.blk G11.out (Ne.symm hcg) (Ne.symm hcg))
    have R12 := hide (hK.blk R11.out hrc hrc)
    have K12 := hide (K11.out.trans hK)
    have D12 := hide (hK.owns D11.out (fun q hq => ⟨hcow_D q hq, hcow_D q hq⟩))
    have hw12 : wo.heap.size ≤ w12.heap.size := K12.out.size
    clear hf ht hf2 ht2 hC hK hw11 C11 S11 K11 G11 R11 D11
    have gc8 := G12.out.cell 8
    have gf8 := G12.out.frozen 8
    have gc9 := G12.out.cell 9
    have gf9 := G12.out.frozen 9
    go_wp2_with (fail)
    have G13 := hide (show Blk ((w12.setCell ⟨wo.heap.size, 8, none⟩ (.int .u64 (U64 x8))).setCell ⟨wo.heap.size, 9, none⟩ (.int .u64 (U64 x9))) wo.heap.size 65 #[.int .i64 x0, .int .i64 x1, .int .i64 x2, .int .i64 x3, .int .i64 x4, .int .i64 x5, .int .i64 x6, .slice A1 vs.length c1, .int .u64 (U64 x8), .int .u64 (U64 x9), .int .u64 0, .int .u64 0, .slice none 0 0, .slice none 0 0] by simpa using ((G12.out.set_ 8 (.int .u64 (U64 x8))).set_ 9 (.int .u64 (U64 x9))))
    have C13 := hide (show CR L A n c ((w12.setCell ⟨wo.heap.size, 8, none⟩ (.int .u64 (U64 x8))).setCell ⟨wo.heap.size, 9, none⟩ (.int .u64 (U64 x9))) cb a12 b12 from ⟨((C12.out.1.far (p := ⟨wo.heap.size, 8, none⟩) hcg (.int .u64 (U64 x8))).far (p := ⟨wo.heap.size, 9, none⟩) hcg (.int .u64 (U64 x9))), C12.out.2⟩)
    have S13 := hide (S12.out.below (((Below.refl cb w12).setCell (p := ⟨wo.heap.size, 8, none⟩) hcbg (.int .u64 (U64 x8))).setCell (p := ⟨wo.heap.size, 9, none⟩) hcbg (.int .u64 (U64 x9))))
    have K13 := hide ((K12.out.set_own hgw 8 (.int .u64 (U64 x8))).set_own hgw 9 (.int .u64 (U64 x9)))
    have R13 := hide ((R12.out.far (p := ⟨wo.heap.size, 8, none⟩) hrg (.int .u64 (U64 x8))).far (p := ⟨wo.heap.size, 9, none⟩) hrg (.int .u64 (U64 x9)))
    have D13 := hide (own_far1 (own_far1 D12.out (p := ⟨wo.heap.size, 8, none⟩) (fun q hq => hrow_D q hq) (.int .u64 (U64 x8))) (p := ⟨wo.heap.size, 9, none⟩) (fun q hq => hrow_D q hq) (.int .u64 (U64 x9)))
    clear gc8 gf8 gc9 gf9 C12 S12 K12 G12 R12 D12
    generalize ((w12.setCell ⟨wo.heap.size, 8, none⟩ (.int .u64 (U64 x8))).setCell ⟨wo.heap.size, 9, none⟩ (.int .u64 (U64 x9))) = w13 at *
    have hw13 : wo.heap.size ≤ w13.heap.size := K13.out.size
    clear hw12
    refine (cwide_any C13.out S13.out HI.out hn).mono ?_
    rintro e w14 ⟨x10, x11, a14, b14, s14, rfl, hf, hf2, ht, ht2, hC, hK⟩
    have F10 := hide hf
    have U10 := hide ht
    have F11 := hide hf2
    have U11 := hide ht2
    have C14 := hide hC
    have S14 := hide (hK.sl S13.out (Nat.le_refl _) (Nat.le_refl _) (Nat.le_of_lt C13.out.1.lt))
    have G14 := hide (hK.blk G13.out (Ne.symm hcg) (Ne.symm hcg))
    have R14 := hide (hK.blk R13.out hrc hrc)
    have K14 := hide (K13.out.trans hK)
    have D14 := hide (hK.owns D13.out (fun q hq => ⟨hcow_D q hq, hcow_D q hq⟩))
    have hw14 : wo.heap.size ≤ w14.heap.size := K14.out.size
    clear hf ht hf2 ht2 hC hK hw13 C13 S13 K13 G13 R13 D13
    have gc10 := G14.out.cell 10
    have gf10 := G14.out.frozen 10
    have gc11 := G14.out.cell 11
    have gf11 := G14.out.frozen 11
    go_wp2_with (fail)
    have G15 := hide (show Blk ((w14.setCell ⟨wo.heap.size, 10, none⟩ (.int .u64 (U64 x10))).setCell ⟨wo.heap.size, 11, none⟩ (.int .u64 (U64 x11))) wo.heap.size 65 #[.int .i64 x0, .int .i64 x1, .int .i64 x2, .int .i64 x3, .int .i64 x4, .int .i64 x5, .int .i64 x6, .slice A1 vs.length c1, .int .u64 (U64 x8), .int .u64 (U64 x9), .int .u64 (U64 x10), .int .u64 (U64 x11), .slice none 0 0, .slice none 0 0] by simpa using ((G14.out.set_ 10 (.int .u64 (U64 x10))).set_ 11 (.int .u64 (U64 x11))))
    have C15 := hide (show CR L A n c ((w14.setCell ⟨wo.heap.size, 10, none⟩ (.int .u64 (U64 x10))).setCell ⟨wo.heap.size, 11, none⟩ (.int .u64 (U64 x11))) cb a14 b14 from ⟨((C14.out.1.far (p := ⟨wo.heap.size, 10, none⟩) hcg (.int .u64 (U64 x10))).far (p := ⟨wo.heap.size, 11, none⟩) hcg (.int .u64 (U64 x11))), C14.out.2⟩)
    have S15 := hide (S14.out.below (((Below.refl cb w14).setCell (p := ⟨wo.heap.size, 10, none⟩) hcbg (.int .u64 (U64 x10))).setCell (p := ⟨wo.heap.size, 11, none⟩) hcbg (.int .u64 (U64 x11))))
    have K15 := hide ((K14.out.set_own hgw 10 (.int .u64 (U64 x10))).set_own hgw 11 (.int .u64 (U64 x11)))
    have R15 := hide ((R14.out.far (p := ⟨wo.heap.size, 10, none⟩) hrg (.int .u64 (U64 x10))).far (p := ⟨wo.heap.size, 11, none⟩) hrg (.int .u64 (U64 x11)))
    have D15 := hide (own_far1 (own_far1 D14.out (p := ⟨wo.heap.size, 10, none⟩) (fun q hq => hrow_D q hq) (.int .u64 (U64 x10))) (p := ⟨wo.heap.size, 11, none⟩) (fun q hq => hrow_D q hq) (.int .u64 (U64 x11)))
    clear gc10 gf10 gc11 gf11 C14 S14 K14 G14 R14 D14
    generalize ((w14.setCell ⟨wo.heap.size, 10, none⟩ (.int .u64 (U64 x10))).setCell ⟨wo.heap.size, 11, none⟩ (.int .u64 (U64 x11))) = w15 at *
    have hw15 : wo.heap.size ≤ w15.heap.size := K15.out.size
    clear hw14
    have hgv15 : wo.heap.size < w15.heap.size := G15.out.lt
    refine (clist_any C15.out S15.out HI.out hn (Nat.le_refl _)).mono ?_
    rintro e w16 ⟨is, A2, c2, a16, b16, rfl, ht, hf, hlen, hC, hO, hK⟩
    have Fis := hide hf
    have U12 := hide ht
    have Lis := hide hlen
    have hrow_E : ∀ q, (Value.slice A2 is.length c2).ownBlock = some q → q ≠ wo.heap.size := fun q hq => by have := (hO.lt q hq).1; omega
    have hcow_E : ∀ q, (Value.slice A2 is.length c2).ownBlock = some q → q ≠ cb := fun q hq => by have := (hO.lt q hq).1; omega
    have hres_E : ∀ q, (Value.slice A2 is.length c2).ownBlock = some q → q ≠ w.heap.size := fun q hq => by have := (hO.lt q hq).1; omega
    have E16 := hide (own_mono hO (show wo.heap.size ≤ w15.heap.size by omega))
    have C16 := hide hC
    have S16 := hide (hK.sl S15.out (Nat.le_refl _) (Nat.le_refl _) (Nat.le_of_lt C15.out.1.lt))
    have G16 := hide (hK.blk G15.out (Ne.symm hcg) (Ne.symm hcg))
    have R16 := hide (hK.blk R15.out hrc hrc)
    have K16 := hide (K15.out.trans hK)
    have D16 := hide (hK.owns D15.out (fun q hq => ⟨hcow_D q hq, hcow_D q hq⟩))
    have hw16 : wo.heap.size ≤ w16.heap.size := K16.out.size
    clear hf ht hlen hC hO hK hgv15 hw15 C15 S15 K15 G15 R15 D15
    have gc12 := G16.out.cell 12
    have gf12 := G16.out.frozen 12
    go_wp2_with (fail)
    have G17 := hide (show Blk (w16.setCell ⟨wo.heap.size, 12, none⟩ (.slice A2 is.length c2)) wo.heap.size 65 #[.int .i64 x0, .int .i64 x1, .int .i64 x2, .int .i64 x3, .int .i64 x4, .int .i64 x5, .int .i64 x6, .slice A1 vs.length c1, .int .u64 (U64 x8), .int .u64 (U64 x9), .int .u64 (U64 x10), .int .u64 (U64 x11), .slice A2 is.length c2, .slice none 0 0] by simpa using (G16.out.set_ 12 (.slice A2 is.length c2)))
    have C17 := hide (show CR L A n c (w16.setCell ⟨wo.heap.size, 12, none⟩ (.slice A2 is.length c2)) cb a16 b16 from ⟨(C16.out.1.far (p := ⟨wo.heap.size, 12, none⟩) hcg (.slice A2 is.length c2)), C16.out.2⟩)
    have S17 := hide (S16.out.below ((Below.refl cb w16).setCell (p := ⟨wo.heap.size, 12, none⟩) hcbg (.slice A2 is.length c2)))
    have K17 := hide (K16.out.set_own hgw 12 (.slice A2 is.length c2))
    have R17 := hide (R16.out.far (p := ⟨wo.heap.size, 12, none⟩) hrg (.slice A2 is.length c2))
    have D17 := hide (own_far1 D16.out (p := ⟨wo.heap.size, 12, none⟩) (fun q hq => hrow_D q hq) (.slice A2 is.length c2))
    have E17 := hide (own_far1 E16.out (p := ⟨wo.heap.size, 12, none⟩) (fun q hq => hrow_E q hq) (.slice A2 is.length c2))
    clear gc12 gf12 C16 S16 K16 G16 R16 D16 E16
    generalize (w16.setCell ⟨wo.heap.size, 12, none⟩ (.slice A2 is.length c2)) = w17 at *
    have hw17 : wo.heap.size ≤ w17.heap.size := K17.out.size
    clear hw16
    have hgv17 : wo.heap.size < w17.heap.size := G17.out.lt
    refine (cbyte_any C17.out S17.out HI.out hn (Nat.le_refl _)).mono ?_
    rintro e w18 ⟨bs, A3, c3, a18, b18, rfl, ht, hf, hlen, hC, hO, hK⟩
    have Fbs := hide hf
    have U13 := hide ht
    have Lbs := hide hlen
    have hrow_F : ∀ q, (Value.slice A3 bs.length c3).ownBlock = some q → q ≠ wo.heap.size := fun q hq => by have := (hO.lt q hq).1; omega
    have hcow_F : ∀ q, (Value.slice A3 bs.length c3).ownBlock = some q → q ≠ cb := fun q hq => by have := (hO.lt q hq).1; omega
    have hres_F : ∀ q, (Value.slice A3 bs.length c3).ownBlock = some q → q ≠ w.heap.size := fun q hq => by have := (hO.lt q hq).1; omega
    have F18 := hide (own_mono hO (show wo.heap.size ≤ w17.heap.size by omega))
    have C18 := hide hC
    have S18 := hide (hK.sl S17.out (Nat.le_refl _) (Nat.le_refl _) (Nat.le_of_lt C17.out.1.lt))
    have G18 := hide (hK.blk G17.out (Ne.symm hcg) (Ne.symm hcg))
    have R18 := hide (hK.blk R17.out hrc hrc)
    have K18 := hide (K17.out.trans hK)
    have D18 := hide (hK.owns D17.out (fun q hq => ⟨hcow_D q hq, hcow_D q hq⟩))
    have E18 := hide (hK.owns E17.out (fun q hq => ⟨hcow_E q hq, hcow_E q hq⟩))
    have hw18 : wo.heap.size ≤ w18.heap.size := K18.out.size
    clear hf ht hlen hC hO hK hgv17 hw17 C17 S17 K17 G17 R17 D17 E17
    have gc13 := G18.out.cell 13
    have gf13 := G18.out.frozen 13
    go_upto_region 14 with (fail)
    have G19 := hide (show Blk (w18.setCell ⟨wo.heap.size, 13, none⟩ (.slice A3 bs.length c3)) wo.heap.size 65 #[.int .i64 x0, .int .i64 x1, .int .i64 x2, .int .i64 x3, .int .i64 x4, .int .i64 x5, .int .i64 x6, .slice A1 vs.length c1, .int .u64 (U64 x8), .int .u64 (U64 x9), .int .u64 (U64 x10), .int .u64 (U64 x11), .slice A2 is.length c2, .slice A3 bs.length c3] by simpa using (G18.out.set_ 13 (.slice A3 bs.length c3)))
    have C19 := hide (show CR L A n c (w18.setCell ⟨wo.heap.size, 13, none⟩ (.slice A3 bs.length c3)) cb a18 b18 from ⟨(C18.out.1.far (p := ⟨wo.heap.size, 13, none⟩) hcg (.slice A3 bs.length c3)), C18.out.2⟩)
    have S19 := hide (S18.out.below ((Below.refl cb w18).setCell (p := ⟨wo.heap.size, 13, none⟩) hcbg (.slice A3 bs.length c3)))
    have K19 := hide (K18.out.set_own hgw 13 (.slice A3 bs.length c3))
    have R19 := hide (R18.out.far (p := ⟨wo.heap.size, 13, none⟩) hrg (.slice A3 bs.length c3))
    have D19 := hide (own_far1 D18.out (p := ⟨wo.heap.size, 13, none⟩) (fun q hq => hrow_D q hq) (.slice A3 bs.length c3))
    have E19 := hide (own_far1 E18.out (p := ⟨wo.heap.size, 13, none⟩) (fun q hq => hrow_E q hq) (.slice A3 bs.length c3))
    have F19 := hide (own_far1 F18.out (p := ⟨wo.heap.size, 13, none⟩) (fun q hq => hrow_F q hq) (.slice A3 bs.length c3))
    clear gc13 gf13 C18 S18 K18 G18 R18 D18 E18 F18
    generalize (w18.setCell ⟨wo.heap.size, 13, none⟩ (.slice A3 bs.length c3)) = w19 at *
    have hw19 : wo.heap.size ≤ w19.heap.size := K19.out.size
    clear hw18
    have hch := chainR U0.out U1.out U2.out U3.out U4.out U5.out U6.out U7.out U8.out U9.out U10.out U11.out U12.out U13.out
    have HCH := hide hch
    have han : a18 ≤ n := C19.out.2
    have cf0 : w19.cell? ⟨cb, 0, none⟩ = some (.slice A n c) := C19.out.1.cell 0
    have cf1 : w19.cell? ⟨cb, 1, none⟩ = some (.int .i64 a18) := C19.out.1.cell 1
    have cf2 : w19.cell? ⟨cb, 2, none⟩ = some (.bool b18) := C19.out.1.cell 2
    have BB := hide (K19.out.below B1.out (by omega) (by omega) (by omega))
    clear hch
    cases b18 with
    | true =>
      have hno : ∀ y : RepD, (∀ d ∈ y.bs, IsByte d) → numsF l.length l 0 ≠ some y.flat := fun y hy hc => by rw [HV.out] at hc; have h1 := HCH.out.2 y.n0 y.n1 y.n2 y.n3 y.n4 y.n5 y.n6 y.vs y.n8 y.n9 y.n10 y.n11 y.is y.bs hy hc; cases h1
      have HNO := hide hno
      clear hno
      go_quiet (fail)
      go_upto_region 15 with (fail)
      have RR := hide (R19.out.drewN nq)
      have B9 := hide (show Below w.heap.size w (w19.drewN nq) from below_drewN BB.out nq)
      generalize w19.drewN nq = wz at *
      refine wp_region_list ?_
      refine wpList_build65 rfl rfl ?_
      refine wpList_store_row rfl 65 (.tmp 2) (.tmp 69) rfl w.heap.size #[.int .i64 0, .int .i64 0, .int .i64 0, .int .i64 0, .int .i64 0, .int .i64 0, .int .i64 0, .slice none 0 0, .int .u64 0, .int .u64 0, .int .u64 0, .int .u64 0, .slice none 0 0, .slice none 0 0] rfl rfl 65 #[.int .i64 0, .int .i64 0, .int .i64 0, .int .i64 0, .int .i64 0, .int .i64 0, .int .i64 0, .slice none 0 0, .int .u64 0, .int .u64 0, .int .u64 0, .int .u64 0, .slice none 0 0, .slice none 0 0] RR.out size65 rfl (by simp [Value.oneCell']) ?_
      go_wp2
      refine bodyPost_ret (res65 rfl _ rfl (RR.out.row _)) rfl ?_
      exact ⟨_, RepD.zero, 13, rfl, ⟨none, 0, none, 0, none, 0, rfl, Sl.none_, Sl.none_, Sl.none_⟩, RepD.zero_ok, by simp [RepD.zero], by simp [RepD.zero], by simp [RepD.zero], .inr ⟨rfl, rfl, HNO.out⟩, below_row B9.out (Nat.le_refl _) _⟩
    | false =>
      by_cases hat : a18 = n
      · have hq : ((a18 : Int) == (n : Int)) = true := by simp; omega
        have hq2 : ((a18 : Int) != (n : Int)) = false := by simp; omega
        have hat2 : (a18 : Int) = (n : Int) := by omega
        have hfl : numsF l.length l 0 = some (RepD.flat ⟨x0, x1, x2, x3, x4, x5, x6, vs, x8, x9, x10, x11, is, bs⟩) := by
          rw [HV.out]
          have h0 : curV L a18 false = some [] := by rw [cur_ok, List.drop_of_length_le (by have := HL.out; omega)]
          exact (HCH.out.1 h0).2
        have HFL := hide hfl
        clear hfl
        go_quiet (fail)
        go_upto_region 16 with (fail)
        have RR := hide (R19.out.drewN nq)
        have GG := hide (G19.out.drewN nq)
        have DD := hide (show (w19.drewN nq).ownsRow wo.heap.size 2 1 (.slice A1 vs.length c1) vs.length (vs.map (Value.int .i64)) from D19.out)
        have EE := hide (show (w19.drewN nq).ownsRow wo.heap.size 2 1 (.slice A2 is.length c2) is.length (is.map (Value.int .i64)) from E19.out)
        have FF := hide (show (w19.drewN nq).ownsRow wo.heap.size 5 1 (.slice A3 bs.length c3) bs.length (bs.map (Value.int .u8)) from F19.out)
        have B9 := hide (show Below w.heap.size w (w19.drewN nq) from below_drewN BB.out nq)
        generalize w19.drewN nq = wz at *
        refine wp_region_list ?_
        refine wpList_load65 rfl (.tmp 6) rfl wo.heap.size 65 rfl GG.out ?_
        refine wpList_store_row rfl 65 (.tmp 2) (.tmp 70) rfl w.heap.size #[.int .i64 x0, .int .i64 x1, .int .i64 x2, .int .i64 x3, .int .i64 x4, .int .i64 x5, .int .i64 x6, .slice A1 vs.length c1, .int .u64 (U64 x8), .int .u64 (U64 x9), .int .u64 (U64 x10), .int .u64 (U64 x11), .slice A2 is.length c2, .slice A3 bs.length c3] rfl rfl 65 #[.int .i64 0, .int .i64 0, .int .i64 0, .int .i64 0, .int .i64 0, .int .i64 0, .int .i64 0, .slice none 0 0, .int .u64 0, .int .u64 0, .int .u64 0, .int .u64 0, .slice none 0 0, .slice none 0 0] RR.out size65 rfl (by simp [Value.oneCell']) ?_
        go_wp2
        refine bodyPost_ret (res65 rfl _ rfl (RR.out.row _)) rfl ?_
        exact ⟨_, ⟨x0, x1, x2, x3, x4, x5, x6, vs, x8, x9, x10, x11, is, bs⟩, 0, rfl, ⟨A1, c1, A2, c2, A3, c3, rfl, Sl.of_own (own_row DD.out hres_D _), Sl.of_own (own_row EE.out hres_E _), Sl.of_own (own_row FF.out hres_F _)⟩, ⟨⟨F0.out, F1.out, F2.out, F3.out, F4.out, F5.out, F6.out, F8.out, F9.out, F10.out, F11.out⟩, Fvs.out, Fis.out, Fbs.out⟩, by have := Lvs.out; show vs.length ≤ nb; omega, by have := Lis.out; show is.length ≤ nb; omega, by have := Lbs.out; show bs.length ≤ nb; omega, .inl ⟨rfl, HFL.out⟩, below_row B9.out (Nat.le_refl _) _⟩
      · have hq : ((a18 : Int) == (n : Int)) = false := by simp; omega
        have hq2 : ((a18 : Int) != (n : Int)) = true := by simp; omega
        have hno : ∀ y : RepD, (∀ d ∈ y.bs, IsByte d) → numsF l.length l 0 ≠ some y.flat := fun y hy hc => by
          rw [HV.out] at hc
          have h1 := HCH.out.2 y.n0 y.n1 y.n2 y.n3 y.n4 y.n5 y.n6 y.vs y.n8 y.n9 y.n10 y.n11 y.is y.bs hy hc
          rw [cur_ok] at h1
          injection h1 with h1
          have h2 := congrArg List.length h1
          rw [List.length_drop] at h2
          have := HL.out
          simp at h2
          omega
        have HNO := hide hno
        clear hno
        go_quiet (fail)
        go_upto_region 15 with (fail)
        have RR := hide (R19.out.drewN nq)
        have B9 := hide (show Below w.heap.size w (w19.drewN nq) from below_drewN BB.out nq)
        generalize w19.drewN nq = wz at *
        refine wp_region_list ?_
        refine wpList_build65 rfl rfl ?_
        refine wpList_store_row rfl 65 (.tmp 2) (.tmp 69) rfl w.heap.size #[.int .i64 0, .int .i64 0, .int .i64 0, .int .i64 0, .int .i64 0, .int .i64 0, .int .i64 0, .slice none 0 0, .int .u64 0, .int .u64 0, .int .u64 0, .int .u64 0, .slice none 0 0, .slice none 0 0] rfl rfl 65 #[.int .i64 0, .int .i64 0, .int .i64 0, .int .i64 0, .int .i64 0, .int .i64 0, .int .i64 0, .slice none 0 0, .int .u64 0, .int .u64 0, .int .u64 0, .int .u64 0, .slice none 0 0, .slice none 0 0] RR.out size65 rfl (by simp [Value.oneCell']) ?_
        go_wp2
        refine bodyPost_ret (res65 rfl _ rfl (RR.out.row _)) rfl ?_
        exact ⟨_, RepD.zero, 13, rfl, ⟨none, 0, none, 0, none, 0, rfl, Sl.none_, Sl.none_, Sl.none_⟩, RepD.zero_ok, by simp [RepD.zero], by simp [RepD.zero], by simp [RepD.zero], .inr ⟨rfl, rfl, HNO.out⟩, below_row B9.out (Nat.le_refl _) _⟩
end Go.Proofs.Ytlcgpldngooekaa
