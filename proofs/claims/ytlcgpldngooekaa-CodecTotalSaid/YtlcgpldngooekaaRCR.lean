/- The reference's numbers of a reply: the contract. -/
import Derived.Test.YtlcgpldngooekaaRC
import Derived.Test.YtlcgpldngooekaaRep
import Derived.Deep.DeepCutAuto
import Derived.Deep.RegionHeld3
namespace Go.Proofs.Ytlcgpldngooekaa
open Go.RowKit
set_option linter.unusedVariables false
theorem held14 {w w' : World} {p : Nat} {t : TypeId} {cs : Array Value} {u v : Value} (h : Blk w p t cs) (hb : Below w.heap.size w w') (h1 : cs[12]? = some u) (h2 : cs[13]? = some v) : w'.cell? ⟨p, 12, none⟩ = some u ∧ w'.cell? ⟨p, 13, none⟩ = some v := by
  have h' := h.below hb h.lt
  exact ⟨(h'.cell 12).trans h1, (h'.cell 13).trans h2⟩
set_option maxRecDepth 100000 in
set_option maxHeartbeats 4000000 in
theorem rrep_any (x : RepD) (A1 : Option Addr) (c1 : Nat) (A2 : Option Addr) (c2 : Nat) (A3 : Option Addr) (c3 B : Nat) (w : World) (hD : Sl w B A1 x.vs.length (x.vs.map (Value.int .i64))) (hE : Sl w B A2 x.is.length (x.is.map (Value.int .i64))) (hF : Sl w B A3 x.bs.length (x.bs.map (Value.int .u8))) (hok : x.Ok) (hB : B ≤ w.heap.size) (hn1 : x.vs.length ≤ 1000000) (hn2 : x.is.length ≤ 1000000) (hn3 : x.bs.length ≤ 1000000) :
    Calls Try.prog 50 #[.agg #[.int .i64 x.n0, .int .i64 x.n1, .int .i64 x.n2, .int .i64 x.n3, .int .i64 x.n4, .int .i64 x.n5, .int .i64 x.n6, .slice A1 x.vs.length c1, .int .u64 (U64 x.n8), .int .u64 (U64 x.n9), .int .u64 (U64 x.n10), .int .u64 (U64 x.n11), .slice A2 x.is.length c2, .slice A3 x.bs.length c3]] w (NumsR x.flat w) := by
  obtain ⟨i0, hi0, hz0, hz1, hz2⟩ := info_parts infoListI
  have HFL := hide (show x.flat.map (Value.int .i64) = [.int .i64 x.n0, .int .i64 x.n1, .int .i64 x.n2, .int .i64 x.n3, .int .i64 x.n4, .int .i64 x.n5, .int .i64 x.n6] ++ (.int .i64 x.vs.length :: x.vs.map (Value.int .i64)) ++ [.int .i64 x.n8, .int .i64 x.n9, .int .i64 x.n10, .int .i64 x.n11] ++ (.int .i64 x.is.length :: x.is.map (Value.int .i64)) ++ (.int .i64 x.bs.length :: x.bs.map (Value.int .i64)) by simp [RepD.flat, flatR])
  have HFN := hide x.flat_len
  have HBY := hide hok.2.2.2
  obtain ⟨⟨_, _, _, _, _, _, _, f8, f9, f10, f11⟩, _, _, _⟩ := hok
  have V8 := hide (U64.back f8)
  have V9 := hide (U64.back f9)
  have V10 := hide (U64.back f10)
  have V11 := hide (U64.back f11)
  clear f8 f9 f10 f11
  generalize U64 x.n8 = y8 at *
  generalize U64 x.n9 = y9 at *
  generalize U64 x.n10 = y10 at *
  generalize U64 x.n11 = y11 at *
  have qC : Blk (w.alloc (.cells #[.int .i64 x.n0, .int .i64 x.n1, .int .i64 x.n2, .int .i64 x.n3, .int .i64 x.n4, .int .i64 x.n5, .int .i64 x.n6, .slice A1 x.vs.length c1, .int .u64 y8, .int .u64 y9, .int .u64 y10, .int .u64 y11, .slice A2 x.is.length c2, .slice A3 x.bs.length c3] 65)) w.heap.size 65 #[.int .i64 x.n0, .int .i64 x.n1, .int .i64 x.n2, .int .i64 x.n3, .int .i64 x.n4, .int .i64 x.n5, .int .i64 x.n6, .slice A1 x.vs.length c1, .int .u64 y8, .int .u64 y9, .int .u64 y10, .int .u64 y11, .slice A2 x.is.length c2, .slice A3 x.bs.length c3] := Blk.new _ _ _
  have qB : Below w.heap.size w (w.alloc (.cells #[.int .i64 x.n0, .int .i64 x.n1, .int .i64 x.n2, .int .i64 x.n3, .int .i64 x.n4, .int .i64 x.n5, .int .i64 x.n6, .slice A1 x.vs.length c1, .int .u64 y8, .int .u64 y9, .int .u64 y10, .int .u64 y11, .slice A2 x.is.length c2, .slice A3 x.bs.length c3] 65)) := (Below.refl _ w).alloc (Nat.le_refl _) _
  have qD : Sl (w.alloc (.cells #[.int .i64 x.n0, .int .i64 x.n1, .int .i64 x.n2, .int .i64 x.n3, .int .i64 x.n4, .int .i64 x.n5, .int .i64 x.n6, .slice A1 x.vs.length c1, .int .u64 y8, .int .u64 y9, .int .u64 y10, .int .u64 y11, .slice A2 x.is.length c2, .slice A3 x.bs.length c3] 65)) B A1 x.vs.length (x.vs.map (Value.int .i64)) := hD.alloc hB _
  have qE : Sl (w.alloc (.cells #[.int .i64 x.n0, .int .i64 x.n1, .int .i64 x.n2, .int .i64 x.n3, .int .i64 x.n4, .int .i64 x.n5, .int .i64 x.n6, .slice A1 x.vs.length c1, .int .u64 y8, .int .u64 y9, .int .u64 y10, .int .u64 y11, .slice A2 x.is.length c2, .slice A3 x.bs.length c3] 65)) B A2 x.is.length (x.is.map (Value.int .i64)) := hE.alloc hB _
  have qF : Sl (w.alloc (.cells #[.int .i64 x.n0, .int .i64 x.n1, .int .i64 x.n2, .int .i64 x.n3, .int .i64 x.n4, .int .i64 x.n5, .int .i64 x.n6, .slice A1 x.vs.length c1, .int .u64 y8, .int .u64 y9, .int .u64 y10, .int .u64 y11, .slice A2 x.is.length c2, .slice A3 x.bs.length c3] 65)) B A3 x.bs.length (x.bs.map (Value.int .u8)) := hF.alloc hB _
  have qs : w.heap.size < (w.alloc (.cells #[.int .i64 x.n0, .int .i64 x.n1, .int .i64 x.n2, .int .i64 x.n3, .int .i64 x.n4, .int .i64 x.n5, .int .i64 x.n6, .slice A1 x.vs.length c1, .int .u64 y8, .int .u64 y9, .int .u64 y10, .int .u64 y11, .slice A2 x.is.length c2, .slice A3 x.bs.length c3] 65)).heap.size := by simp
  clear hD hE hF
  go_enter Try.func50, Try.ntmps50
  go_upto_region 1 with (fail)
  generalize (w.alloc (.cells #[.int .i64 x.n0, .int .i64 x.n1, .int .i64 x.n2, .int .i64 x.n3, .int .i64 x.n4, .int .i64 x.n5, .int .i64 x.n6, .slice A1 x.vs.length c1, .int .u64 y8, .int .u64 y9, .int .u64 y10, .int .u64 y11, .slice A2 x.is.length c2, .slice A3 x.bs.length c3] 65)) = w0 at *
  have C0 := hide qC
  have B0 := hide qB
  have D0 := hide qD
  have E0 := hide qE
  have F0 := hide qF
  clear qC qB qD qE qF
  generalize hM1 : x.vs.length + 1 = M1 at *
  generalize hM2 : x.is.length + 1 = M2 at *
  generalize hM3 : x.bs.length + 1 = M3 at *
  have HM1 := hide hM1
  have HM2 := hide hM2
  have HM3 := hide hM3
  have hM1b : M1 ≤ 1000001 := by omega
  have hM2b : M2 ≤ 1000001 := by omega
  have hM3b : M3 ≤ 1000001 := by omega
  have C54a := hide (show ∀ w1 : World, Below w0.heap.size w0 w1 → Calls Try.prog 54 #[.slice A1 x.vs.length c1] w1 (fun e w' => ∃ (A : Option Addr) (c : Nat), e = .returned (.slice A M1 c) ∧ w'.ownsRow w1.heap.size 2 1 (.slice A M1 c) M1 (.int .i64 x.vs.length :: x.vs.map (Value.int .i64)) ∧ Below w1.heap.size w1 w') from fun w1 h => by
    have := rlist_any A1 x.vs.length c1 B x.vs w1 (D0.out.below (h.mono (by omega))) (by have := h.size; omega) (by omega)
    unfold NumsR at this
    simpa [hM1] using this)
  have C54b := hide (show ∀ w1 : World, Below w0.heap.size w0 w1 → Calls Try.prog 54 #[.slice A2 x.is.length c2] w1 (fun e w' => ∃ (A : Option Addr) (c : Nat), e = .returned (.slice A M2 c) ∧ w'.ownsRow w1.heap.size 2 1 (.slice A M2 c) M2 (.int .i64 x.is.length :: x.is.map (Value.int .i64)) ∧ Below w1.heap.size w1 w') from fun w1 h => by
    have := rlist_any A2 x.is.length c2 B x.is w1 (E0.out.below (h.mono (by omega))) (by have := h.size; omega) (by omega)
    unfold NumsR at this
    simpa [hM2] using this)
  have C55 := hide (show ∀ w1 : World, Below w0.heap.size w0 w1 → Calls Try.prog 55 #[.slice A3 x.bs.length c3] w1 (fun e w' => ∃ (A : Option Addr) (c : Nat), e = .returned (.slice A M3 c) ∧ w'.ownsRow w1.heap.size 2 1 (.slice A M3 c) M3 (.int .i64 x.bs.length :: x.bs.map (Value.int .i64)) ∧ Below w1.heap.size w1 w') from fun w1 h => by
    have := rbytes_any A3 x.bs.length c3 B x.bs w1 (F0.out.below (h.mono (by omega))) HBY.out (by have := h.size; omega) (by omega)
    unfold NumsR at this
    simpa [hM3] using this)
  clear hM1 hM2 hM3
  go_cut [3, 4] (fun s3 s4 wx => ∃ p q : Nat, s3 = .pointer (some ⟨p, 0, none⟩) ∧ s4 = .pointer (some ⟨q, 0, none⟩) ∧ Blk wx p 56 #[.int .i64 x.n1, .int .i64 x.n2, .int .i64 x.n3, .int .i64 x.n4, .int .i64 x.n5, .int .i64 x.n6] ∧ Blk wx q 61 #[.int .u64 y8, .int .u64 y9, .int .u64 y10, .int .u64 y11] ∧ Below w0.heap.size w0 wx)
  case first =>
    clear C54a C54b C55
    have g1 := C0.out.cell 1
    have g2 := C0.out.cell 2
    have g3 := C0.out.cell 3
    have g4 := C0.out.cell 4
    have g5 := C0.out.cell 5
    have g6 := C0.out.cell 6
    have g8 := C0.out.cell 8
    have g9 := C0.out.cell 9
    have g10 := C0.out.cell 10
    have g11 := C0.out.cell 11
    go_region
    all_goals
      go_wp2_with (fail)
      go_meet
      first
        | (refine ⟨w0.heap.size, w0.heap.size + 1, rfl, rfl, ?_, ?_, ?_⟩; (· (repeat (first | with_reducible exact Blk.new _ _ _ | ((with_reducible refine Blk.new_at ?_ _ _); simp; done) | with_reducible refine Blk.drew ?_ | with_reducible refine Blk.alloc ?_ _))); (· (repeat (first | with_reducible exact Blk.new _ _ _ | ((with_reducible refine Blk.new_at ?_ _ _); simp; done) | with_reducible refine Blk.drew ?_ | with_reducible refine Blk.alloc ?_ _))); (· (repeat (first | with_reducible exact Below.refl _ _ | with_reducible refine Below.drew ?_ | with_reducible refine Bl.alloc' ?_ _))))
        | (refine ⟨w0.heap.size + 1, w0.heap.size, rfl, rfl, ?_, ?_, ?_⟩; (· (repeat (first | with_reducible exact Blk.new _ _ _ | ((with_reducible refine Blk.new_at ?_ _ _); simp; done) | with_reducible refine Blk.drew ?_ | with_reducible refine Blk.alloc ?_ _))); (· (repeat (first | with_reducible exact Blk.new _ _ _ | ((with_reducible refine Blk.new_at ?_ _ _); simp; done) | with_reducible refine Blk.drew ?_ | with_reducible refine Blk.alloc ?_ _))); (· (repeat (first | with_reducible exact Below.refl _ _ | with_reducible refine Below.drew ?_ | with_reducible refine Bl.alloc' ?_ _))))
  case rest =>
    obtain ⟨p, q, rfl, rfl, hP, hQ, hb1⟩ := hcut
    obtain ⟨wx, rfl⟩ : ∃ wx : World, wx = wc := ⟨_, rfl⟩
    have C1 := hide (C0.out.below hb1 C0.out.lt)
    have P1 := hide hP
    have Q1 := hide hQ
    have B1 := hide hb1
    have e0 := C1.out.cell 0
    have p0 := P1.out.cell 0
    have p1 := P1.out.cell 1
    have p2 := P1.out.cell 2
    have p3 := P1.out.cell 3
    have p4 := P1.out.cell 4
    have p5 := P1.out.cell 5
    clear hP hQ hb1
    have hqx := Q1.out.lt
    have hs1 := B1.out.size
    go_upto_region 3 with (fail)
    have O2 := hide (own_mono (own_row_h (w := wx) (base := wx.heap.size) (t := 2) (l := [.int .i64 x.n0, .int .i64 x.n1, .int .i64 x.n2, .int .i64 x.n3, .int .i64 x.n4, .int .i64 x.n5, .int .i64 x.n6]) rfl (Nat.le_refl _) rfl (by simp [maxLen])) hs1)
    have C2 := hide (C1.out.alloc (.cells #[.int .i64 x.n0, .int .i64 x.n1, .int .i64 x.n2, .int .i64 x.n3, .int .i64 x.n4, .int .i64 x.n5, .int .i64 x.n6] 2))
    have Q2 := hide (Q1.out.alloc (.cells #[.int .i64 x.n0, .int .i64 x.n1, .int .i64 x.n2, .int .i64 x.n3, .int .i64 x.n4, .int .i64 x.n5, .int .i64 x.n6] 2))
    have B2 := hide (Bl.alloc' B1.out (.cells #[.int .i64 x.n0, .int .i64 x.n1, .int .i64 x.n2, .int .i64 x.n3, .int .i64 x.n4, .int .i64 x.n5, .int .i64 x.n6] 2))
    have hs2 : (wx.alloc (.cells #[.int .i64 x.n0, .int .i64 x.n1, .int .i64 x.n2, .int .i64 x.n3, .int .i64 x.n4, .int .i64 x.n5, .int .i64 x.n6] 2)).heap.size = wx.heap.size + 1 := by simp
    clear e0 p0 p1 p2 p3 p4 p5 C1 P1 Q1 B1
    have hcw : w.heap.size ≠ wx.heap.size := by omega
    have hqw : q ≠ wx.heap.size := by omega
    generalize hgx : wx.heap.size = gx at *
    have O2 := hide O2.out
    generalize (wx.alloc (.cells #[.int .i64 x.n0, .int .i64 x.n1, .int .i64 x.n2, .int .i64 x.n3, .int .i64 x.n4, .int .i64 x.n5, .int .i64 x.n6] 2)) = w2 at *
    clear hgx
    have e7 := C2.out.cell 7
    go_upto_region 4 with (first | (go_at_call 54; refine (C54a.out _ B2.out).mono ?_; rintro e w3 ⟨A5, k5, rfl, hown5, hb5⟩) | (at_builtin; refine wpList_append_sl _ rfl (.tmp 33) (.tmp 37) 33 rfl w0.heap.size 2 i0 (.int .i64 0) 8 Try.underlying33 hi0 hz0 hz1 hz2 rfl (.slice (some ⟨gx, 0, none⟩) 7 7) 7 [.int .i64 x.n0, .int .i64 x.n1, .int .i64 x.n2, .int .i64 x.n3, .int .i64 x.n4, .int .i64 x.n5, .int .i64 x.n6] rfl (own_below O2.out hb5) w3.heap.size A5 M1 k5 (.int .i64 x.vs.length :: x.vs.map (Value.int .i64)) rfl (Sl.of_own hown5) (by intro u hu; simp at hu; rcases hu with rfl | ⟨q, _, rfl⟩ <;> rfl) (by simp only [maxLen]; omega) (by omega) (by have := hb5.size; omega) ?_; intro v4 w4 hown4 hg4 hat4; obtain ⟨A6, k6, rfl, hk1, hk2⟩ := own_slice hown4))
    have hb4 : Below w0.heap.size w0 w4 := (Bl.call' B2.out hb5).grown hg4 (by have := hb5.size; omega) (fun z hz => by simp [Value.ownBlock] at hz; omega)
    have O4 := hide hown4
    have B4 := hide hb4
    have C4 := hide (C0.out.below hb4 C0.out.lt)
    have Q4 := hide ((Q2.out.below hb5 Q2.out.lt).grown hg4 (by simp [Value.ownBlock]; omega))
    have hq4 : ∀ z, (Value.slice A6 (7 + M1) k6).ownBlock = some z → w0.heap.size ≤ z ∧ z < w4.heap.size := fun z hz => O4.out.lt z hz
    have hs4 := hb4.size
    clear hown5 hb5 hown4 hg4 hat4 hb4 O2 B2 C2 Q2 e7 hk1 hk2 hcw hqw hqx hs1 hs2
    have e0 := Q4.out.cell 0
    have e1 := Q4.out.cell 1
    have e2 := Q4.out.cell 2
    have e3 := Q4.out.cell 3
    have v8 := V8.out
    have v9 := V9.out
    have v10 := V10.out
    have v11 := V11.out
    go_upto_region 5 with (at_builtin; refine wpList_append_sl _ rfl (.tmp 39) (.tmp 56) 33 rfl w0.heap.size 2 i0 (.int .i64 0) 8 Try.underlying33 hi0 hz0 hz1 hz2 rfl (.slice A6 (7 + M1) k6) (7 + M1) ([.int .i64 x.n0, .int .i64 x.n1, .int .i64 x.n2, .int .i64 x.n3, .int .i64 x.n4, .int .i64 x.n5, .int .i64 x.n6] ++ (.int .i64 x.vs.length :: x.vs.map (Value.int .i64))) rfl (O4.out.alloc _) (w4.heap.size + 1) (some ⟨w4.heap.size, 0, none⟩) 4 4 [.int .i64 x.n8, .int .i64 x.n9, .int .i64 x.n10, .int .i64 x.n11] rfl (by simpa using Sl.row_h (w := w4) (t := 2) (l := [.int .i64 x.n8, .int .i64 x.n9, .int .i64 x.n10, .int .i64 x.n11]) rfl rfl (by simp [maxLen])) (by intro u hu; simp at hu; rcases hu with rfl | rfl | rfl | rfl <;> rfl) (by simp only [maxLen]; omega) (by omega) (by simp; omega) ?_; intro v5 w5 hown5 hg5 hat5; obtain ⟨A7, k7, rfl, hk1, hk2⟩ := own_slice hown5)
    have hb5 : Below w0.heap.size w0 w5 := (Bl.alloc' B4.out _).grown hg5 (by simp; omega) (fun z hz => (hq4 z hz).1)
    have O5 := hide hown5
    have B5 := hide hb5
    have C5 := hide (C0.out.below hb5 C0.out.lt)
    have hq5 : ∀ z, (Value.slice A7 (7 + M1 + 4) k7).ownBlock = some z → w0.heap.size ≤ z ∧ z < w5.heap.size := fun z hz => O5.out.lt z hz
    have hs5 := hb5.size
    clear hown5 hg5 hat5 hb5 hk1 hk2 O4 B4 C4 Q4 hq4 hs4 e0 e1 e2 e3 v8 v9 v10 v11 V8 V9 V10 V11 C54a
    go_region_held3 (fun w' => w'.cell? ⟨w.heap.size, 12, none⟩ = some (.slice A2 x.is.length c2) ∧ w'.cell? ⟨w.heap.size, 13, none⟩ = some (.slice A3 x.bs.length c3)) ((refine held14 C0.out ?_ rfl rfl; (repeat (first | with_reducible exact Below.refl _ _ | with_reducible exact hbA | with_reducible exact hbB | with_reducible exact hbC | with_reducible exact hbD | with_reducible exact B5.out | with_reducible refine Below.drew ?_ | with_reducible refine Bl.alloc' ?_ _)))) (first | (go_at_call 54; with_reducible refine (C54b.out _ ?_).mono ?_; (· (repeat (first | with_reducible exact Below.refl _ _ | with_reducible exact hbA | with_reducible exact hbB | with_reducible exact hbC | with_reducible exact hbD | with_reducible exact B5.out | with_reducible refine Below.drew ?_ | with_reducible refine Bl.alloc' ?_ _))); rintro e w6 ⟨AA, kA, rfl, hown6, hb6⟩; refine have_ (p := Below w0.heap.size w0 w6) ?_ ?_; (· refine Bl.call' ?_ hb6; (repeat (first | with_reducible exact Below.refl _ _ | with_reducible exact hbA | with_reducible exact hbB | with_reducible exact hbC | with_reducible exact hbD | with_reducible exact B5.out | with_reducible refine Below.drew ?_ | with_reducible refine Bl.alloc' ?_ _))); intro hbA) | (go_at_call 55; with_reducible refine (C55.out _ ?_).mono ?_; (· (repeat (first | with_reducible exact Below.refl _ _ | with_reducible exact hbA | with_reducible exact hbB | with_reducible exact hbC | with_reducible exact hbD | with_reducible exact B5.out | with_reducible refine Below.drew ?_ | with_reducible refine Bl.alloc' ?_ _))); rintro e w7 ⟨AB, kB, rfl, hown7, hb7⟩; refine have_ (p := Below w0.heap.size w0 w7) ?_ ?_; (· refine Bl.call' ?_ hb7; (repeat (first | with_reducible exact Below.refl _ _ | with_reducible exact hbA | with_reducible exact hbB | with_reducible exact hbC | with_reducible exact hbD | with_reducible exact B5.out | with_reducible refine Below.drew ?_ | with_reducible refine Bl.alloc' ?_ _))); intro hbB) | (refine step_app1 (o := ⟨some 62, _, _, _, _, _⟩) trivial (by rfl) (.tmp 58) (.tmp 61) 33 (by rfl) w0.heap.size 2 i0 (.int .i64 0) 8 Try.underlying33 hi0 hz0 hz1 hz2 rfl (.slice A7 (7 + M1 + 4) k7) (7 + M1 + 4) ([.int .i64 x.n0, .int .i64 x.n1, .int .i64 x.n2, .int .i64 x.n3, .int .i64 x.n4, .int .i64 x.n5, .int .i64 x.n6] ++ (.int .i64 x.vs.length :: x.vs.map (Value.int .i64)) ++ [.int .i64 x.n8, .int .i64 x.n9, .int .i64 x.n10, .int .i64 x.n11]) (by rfl) ?_ AA M2 kA (.int .i64 x.is.length :: x.is.map (Value.int .i64)) (by rfl) ?_ ?_ (7 + M1 + 4 + M2) ?_ ?_ ?_ ?_ ?_; (· (repeat (first | with_reducible exact O5.out | with_reducible refine World.ownsRow.drew ?_ | with_reducible refine own_below ?_ hb6 | with_reducible refine own_below ?_ hb7))); (· (repeat (first | with_reducible exact Sl.of_own hown6 | with_reducible refine Sl.drew_h ?_ | with_reducible refine Sl.below_h hb7 ?_))); (· intro u hu; simp at hu; rcases hu with rfl | ⟨q, _, rfl⟩ <;> rfl); (· omega); (· simp only [maxLen]; omega); (· omega); (· first | omega | (have h9 := hbA.size; omega) | (have h9 := hbA.size; simp at h9; omega) | (have h9 := hbA.size; simp at h9 ⊢; omega) | (have h9 := hbB.size; omega) | (have h9 := hbB.size; simp at h9; omega) | (have h9 := hbB.size; simp at h9 ⊢; omega) | (have h9 := hbC.size; omega) | (have h9 := hbC.size; simp at h9; omega) | (have h9 := hbC.size; simp at h9 ⊢; omega) | (have h9 := hbA.size; have h8 := hbB.size; omega)); intro A8 k8 w8 hown8 hg8; refine have_ (p := Below w0.heap.size w0 w8) ?_ ?_; (· refine Below.grown ?_ hg8 ?_ ?_; (· (repeat (first | with_reducible exact Below.refl _ _ | with_reducible exact hbA | with_reducible exact hbB | with_reducible exact hbC | with_reducible exact hbD | with_reducible exact B5.out | with_reducible refine Below.drew ?_ | with_reducible refine Bl.alloc' ?_ _))); (· first | omega | (have h9 := hbA.size; omega) | (have h9 := hbA.size; simp at h9; omega) | (have h9 := hbA.size; simp at h9 ⊢; omega) | (have h9 := hbB.size; omega) | (have h9 := hbB.size; simp at h9; omega) | (have h9 := hbB.size; simp at h9 ⊢; omega) | (have h9 := hbC.size; omega) | (have h9 := hbC.size; simp at h9; omega) | (have h9 := hbC.size; simp at h9 ⊢; omega) | (have h9 := hbA.size; have h8 := hbB.size; omega)); (· intro z hz; exact (hq5 z hz).1)); intro hbC) | (refine step_app1 (o := ⟨some 66, _, _, _, _, _⟩) trivial (by rfl) (.tmp 62) (.tmp 65) 33 (by rfl) w0.heap.size 2 i0 (.int .i64 0) 8 Try.underlying33 hi0 hz0 hz1 hz2 rfl (.slice A8 (7 + M1 + 4 + M2) k8) (7 + M1 + 4 + M2) (([.int .i64 x.n0, .int .i64 x.n1, .int .i64 x.n2, .int .i64 x.n3, .int .i64 x.n4, .int .i64 x.n5, .int .i64 x.n6] ++ (.int .i64 x.vs.length :: x.vs.map (Value.int .i64)) ++ [.int .i64 x.n8, .int .i64 x.n9, .int .i64 x.n10, .int .i64 x.n11]) ++ (.int .i64 x.is.length :: x.is.map (Value.int .i64))) (by rfl) ?_ AB M3 kB (.int .i64 x.bs.length :: x.bs.map (Value.int .i64)) (by rfl) ?_ ?_ (7 + M1 + 4 + M2 + M3) ?_ ?_ ?_ ?_ ?_; (· (repeat (first | with_reducible exact hown8 | with_reducible refine World.ownsRow.drew ?_ | with_reducible refine own_below ?_ hb7))); (· (first | (with_reducible exact Sl.of_own hown7) | (refine Sl.of_own (own_grown (base := _) (e := 2) (k := 1) (v := .slice AB M3 kB) (n := M3) (xs := (.int .i64 x.bs.length :: x.bs.map (Value.int .i64))) ?_ hg8 ?_); (· repeat (first | with_reducible exact hown7 | with_reducible refine World.ownsRow.drew ?_ | with_reducible refine own_below ?_ hb6)); (· intro z hz hr; have h1 := (World.ownsRow.lt hown7 z hz).1; have h2 := (hq5 z hr).2; first | omega | (have h9 := hb6.size; simp at h9 h1; omega) | (simp at h1; omega))))); (· intro u hu; simp at hu; rcases hu with rfl | ⟨q, _, rfl⟩ <;> rfl); (· omega); (· simp only [maxLen]; omega); (· omega); (· first | omega | (have h9 := hbA.size; omega) | (have h9 := hbA.size; simp at h9; omega) | (have h9 := hbA.size; simp at h9 ⊢; omega) | (have h9 := hbB.size; omega) | (have h9 := hbB.size; simp at h9; omega) | (have h9 := hbB.size; simp at h9 ⊢; omega) | (have h9 := hbC.size; omega) | (have h9 := hbC.size; simp at h9; omega) | (have h9 := hbC.size; simp at h9 ⊢; omega) | (have h9 := hbA.size; have h8 := hbB.size; omega)); intro A9 k9 w9 hown9 hg9; refine have_ (p := Below w0.heap.size w0 w9) ?_ ?_; (· refine Below.grown ?_ hg9 ?_ ?_; (· (repeat (first | with_reducible exact Below.refl _ _ | with_reducible exact hbA | with_reducible exact hbB | with_reducible exact hbC | with_reducible exact hbD | with_reducible exact B5.out | with_reducible refine Below.drew ?_ | with_reducible refine Bl.alloc' ?_ _))); (· first | omega | (have h9 := hbA.size; omega) | (have h9 := hbA.size; simp at h9; omega) | (have h9 := hbA.size; simp at h9 ⊢; omega) | (have h9 := hbB.size; omega) | (have h9 := hbB.size; simp at h9; omega) | (have h9 := hbB.size; simp at h9 ⊢; omega) | (have h9 := hbC.size; omega) | (have h9 := hbC.size; simp at h9; omega) | (have h9 := hbC.size; simp at h9 ⊢; omega) | (have h9 := hbA.size; have h8 := hbB.size; omega)); (· intro z hz; exact (World.ownsRow.lt hown8 z hz).1)); intro hbD))
    all_goals
     have OF := hide hown9
     have BF := hide hbD
     have hle : x.flat.length = 7 + M1 + 4 + M2 + M3 := by have := HFN.out; have := HM1.out; have := HM2.out; have := HM3.out; omega
     have HLE := hide hle
     clear hown9 hg9 hbA hbB hbC hbD hb6 hb7 hown6 hown7 hown8 hg8 O5 B5 hq5 hs5 hle
     go_wp2
     go_ret
     refine ⟨A9, k9, by rw [HLE.out]; rfl, ?_, B0.out.trans (BF.out.mono (by omega))⟩
     rw [HLE.out, HFL.out]
     exact own_mono OF.out (by omega)
end Go.Proofs.Ytlcgpldngooekaa
