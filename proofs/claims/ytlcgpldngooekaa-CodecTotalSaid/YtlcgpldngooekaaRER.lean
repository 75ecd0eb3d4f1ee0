/- The reference's code of a reply, and whether two replies are the same: the contracts. -/
import Derived.Test.YtlcgpldngooekaaRCR
import Derived.Test.YtlcgpldngooekaaRE
namespace Go.Proofs.Ytlcgpldngooekaa
open Go.RowKit
set_option linter.unusedVariables false
set_option maxRecDepth 100000 in
theorem rencr_any (v : Value) (x : RepD) (B : Nat) (w : World) (h : HoldsR w B v x) (hok : x.Ok) (hB : B ≤ w.heap.size) (h1 : x.vs.length ≤ 200) (h2 : x.is.length ≤ 200) (h3 : x.bs.length ≤ 500) :
    Calls Try.prog 33 #[v] w (CodeR (writeL x.flat) w) := by
  obtain ⟨A1, c1, A2, c2, A3, c3, rfl, hD, hE, hF⟩ := h
  have C50 := hide (rrep_any x A1 c1 A2 c2 A3 c3 B (w.alloc (.cells #[.int .i64 x.n0, .int .i64 x.n1, .int .i64 x.n2, .int .i64 x.n3, .int .i64 x.n4, .int .i64 x.n5, .int .i64 x.n6, .slice A1 x.vs.length c1, .int .u64 (U64 x.n8), .int .u64 (U64 x.n9), .int .u64 (U64 x.n10), .int .u64 (U64 x.n11), .slice A2 x.is.length c2, .slice A3 x.bs.length c3] 65)) (hD.alloc hB _) (hE.alloc hB _) (hF.alloc hB _) hok (by simp; omega) (by omega) (by omega) (by omega))
  have B0 := hide ((Below.refl _ w).alloc (Nat.le_refl _) (.cells #[.int .i64 x.n0, .int .i64 x.n1, .int .i64 x.n2, .int .i64 x.n3, .int .i64 x.n4, .int .i64 x.n5, .int .i64 x.n6, .slice A1 x.vs.length c1, .int .u64 (U64 x.n8), .int .u64 (U64 x.n9), .int .u64 (U64 x.n10), .int .u64 (U64 x.n11), .slice A2 x.is.length c2, .slice A3 x.bs.length c3] 65))
  have hs0 : w.heap.size ≤ (w.alloc (.cells #[.int .i64 x.n0, .int .i64 x.n1, .int .i64 x.n2, .int .i64 x.n3, .int .i64 x.n4, .int .i64 x.n5, .int .i64 x.n6, .slice A1 x.vs.length c1, .int .u64 (U64 x.n8), .int .u64 (U64 x.n9), .int .u64 (U64 x.n10), .int .u64 (U64 x.n11), .slice A2 x.is.length c2, .slice A3 x.bs.length c3] 65)).heap.size := by simp
  have C40 := hide (fun (A : Option Addr) (n c : Nat) (w1 : World) (h : Sl w1 w1.heap.size A n (x.flat.map (Value.int .i64))) (hn : n ≤ 10000) => renc_nums A n c x.flat w1 h (hok.ints (by omega) (by omega) (by omega)) hn)
  have hfl := x.flat_len
  clear hD hE hF hok
  unfold NumsR at C50
  unfold CodeR at C40
  generalize hM : x.flat.length = M at *
  have hMb : M ≤ 10000 := by omega
  clear hfl hM
  unfold RepD.cells
  go_enter Try.func33, Try.ntmps33
  go_wp2_with (fail)
  refine C50.out.mono ?_
  rintro e w1 ⟨A, c, rfl, hown, hbl⟩
  have C := hide (C40.out A M c w1 (Sl.of_own hown) hMb)
  have HBL := hide (B0.out.trans (hbl.mono hs0))
  have hsz := HBL.out.size
  clear hown hbl
  go_wp2_with (fail)
  refine C.out.mono ?_
  rintro e w2 ⟨A', c', rfl, hown2, hbl2⟩
  have HO := hide hown2
  have HB2 := hide (HBL.out.trans (hbl2.mono hsz))
  clear hown2 hbl2
  go_wp2
  go_ret2
  exact ⟨A', c', rfl, own_mono HO.out hsz, HB2.out⟩
theorem held28 {w w' : World} {p q : Nat} {t t' : TypeId} {v0 v1 v2 v3 v4 v5 v6 v7 v8 v9 v10 v11 v12 v13 u0 u1 u2 u3 u4 u5 u6 u7 u8 u9 u10 u11 u12 u13 : Value} (h : Blk w p t #[v0, v1, v2, v3, v4, v5, v6, v7, v8, v9, v10, v11, v12, v13]) (k : Blk w q t' #[u0, u1, u2, u3, u4, u5, u6, u7, u8, u9, u10, u11, u12, u13]) (hb : Below w.heap.size w w') : w'.cell? ⟨p, 0, none⟩ = some (v0) ∧ w'.cell? ⟨p, 1, none⟩ = some (v1) ∧ w'.cell? ⟨p, 2, none⟩ = some (v2) ∧ w'.cell? ⟨p, 3, none⟩ = some (v3) ∧ w'.cell? ⟨p, 4, none⟩ = some (v4) ∧ w'.cell? ⟨p, 5, none⟩ = some (v5) ∧ w'.cell? ⟨p, 6, none⟩ = some (v6) ∧ w'.cell? ⟨p, 7, none⟩ = some (v7) ∧ w'.cell? ⟨p, 8, none⟩ = some (v8) ∧ w'.cell? ⟨p, 9, none⟩ = some (v9) ∧ w'.cell? ⟨p, 10, none⟩ = some (v10) ∧ w'.cell? ⟨p, 11, none⟩ = some (v11) ∧ w'.cell? ⟨p, 12, none⟩ = some (v12) ∧ w'.cell? ⟨p, 13, none⟩ = some (v13) ∧ w'.cell? ⟨q, 0, none⟩ = some (u0) ∧ w'.cell? ⟨q, 1, none⟩ = some (u1) ∧ w'.cell? ⟨q, 2, none⟩ = some (u2) ∧ w'.cell? ⟨q, 3, none⟩ = some (u3) ∧ w'.cell? ⟨q, 4, none⟩ = some (u4) ∧ w'.cell? ⟨q, 5, none⟩ = some (u5) ∧ w'.cell? ⟨q, 6, none⟩ = some (u6) ∧ w'.cell? ⟨q, 7, none⟩ = some (u7) ∧ w'.cell? ⟨q, 8, none⟩ = some (u8) ∧ w'.cell? ⟨q, 9, none⟩ = some (u9) ∧ w'.cell? ⟨q, 10, none⟩ = some (u10) ∧ w'.cell? ⟨q, 11, none⟩ = some (u11) ∧ w'.cell? ⟨q, 12, none⟩ = some (u12) ∧ w'.cell? ⟨q, 13, none⟩ = some (u13) := by
  have h' := h.below hb h.lt
  have k' := k.below hb k.lt
  exact ⟨h'.cell 0, h'.cell 1, h'.cell 2, h'.cell 3, h'.cell 4, h'.cell 5, h'.cell 6, h'.cell 7, h'.cell 8, h'.cell 9, h'.cell 10, h'.cell 11, h'.cell 12, h'.cell 13, k'.cell 0, k'.cell 1, k'.cell 2, k'.cell 3, k'.cell 4, k'.cell 5, k'.cell 6, k'.cell 7, k'.cell 8, k'.cell 9, k'.cell 10, k'.cell 11, k'.cell 12, k'.cell 13⟩
set_option maxRecDepth 100000 in
set_option maxHeartbeats 2000000 in
theorem rsamer_any (v v' : Value) (x y : RepD) (B : Nat) (w : World) (h : HoldsR w B v x) (h' : HoldsR w B v' y) (hx : x.Ok) (hy : y.Ok) (hB : B ≤ w.heap.size) (h1 : x.vs.length ≤ 1000000) (h2 : x.is.length ≤ 1000000) (h3 : x.bs.length ≤ 1000000) (h4 : y.vs.length ≤ 1000000) (h5 : y.is.length ≤ 1000000) (h6 : y.bs.length ≤ 1000000) :
    Calls Try.prog 35 #[v, v'] w (SameR x.flat y.flat w) := by
  obtain ⟨A1, c1, A2, c2, A3, c3, rfl, hD, hE, hF⟩ := h
  obtain ⟨A4, c4, A5, c5, A6, c6, rfl, hD', hE', hF'⟩ := h'
  have qP : Blk ((w.alloc (.cells #[.int .i64 x.n0, .int .i64 x.n1, .int .i64 x.n2, .int .i64 x.n3, .int .i64 x.n4, .int .i64 x.n5, .int .i64 x.n6, .slice A1 x.vs.length c1, .int .u64 (U64 x.n8), .int .u64 (U64 x.n9), .int .u64 (U64 x.n10), .int .u64 (U64 x.n11), .slice A2 x.is.length c2, .slice A3 x.bs.length c3] 65)).alloc (.cells #[.int .i64 y.n0, .int .i64 y.n1, .int .i64 y.n2, .int .i64 y.n3, .int .i64 y.n4, .int .i64 y.n5, .int .i64 y.n6, .slice A4 y.vs.length c4, .int .u64 (U64 y.n8), .int .u64 (U64 y.n9), .int .u64 (U64 y.n10), .int .u64 (U64 y.n11), .slice A5 y.is.length c5, .slice A6 y.bs.length c6] 65)) w.heap.size 65 #[.int .i64 x.n0, .int .i64 x.n1, .int .i64 x.n2, .int .i64 x.n3, .int .i64 x.n4, .int .i64 x.n5, .int .i64 x.n6, .slice A1 x.vs.length c1, .int .u64 (U64 x.n8), .int .u64 (U64 x.n9), .int .u64 (U64 x.n10), .int .u64 (U64 x.n11), .slice A2 x.is.length c2, .slice A3 x.bs.length c3] := (Blk.new w 65 _).alloc _
  have qQ : Blk ((w.alloc (.cells #[.int .i64 x.n0, .int .i64 x.n1, .int .i64 x.n2, .int .i64 x.n3, .int .i64 x.n4, .int .i64 x.n5, .int .i64 x.n6, .slice A1 x.vs.length c1, .int .u64 (U64 x.n8), .int .u64 (U64 x.n9), .int .u64 (U64 x.n10), .int .u64 (U64 x.n11), .slice A2 x.is.length c2, .slice A3 x.bs.length c3] 65)).alloc (.cells #[.int .i64 y.n0, .int .i64 y.n1, .int .i64 y.n2, .int .i64 y.n3, .int .i64 y.n4, .int .i64 y.n5, .int .i64 y.n6, .slice A4 y.vs.length c4, .int .u64 (U64 y.n8), .int .u64 (U64 y.n9), .int .u64 (U64 y.n10), .int .u64 (U64 y.n11), .slice A5 y.is.length c5, .slice A6 y.bs.length c6] 65)) (w.heap.size + 1) 65 #[.int .i64 y.n0, .int .i64 y.n1, .int .i64 y.n2, .int .i64 y.n3, .int .i64 y.n4, .int .i64 y.n5, .int .i64 y.n6, .slice A4 y.vs.length c4, .int .u64 (U64 y.n8), .int .u64 (U64 y.n9), .int .u64 (U64 y.n10), .int .u64 (U64 y.n11), .slice A5 y.is.length c5, .slice A6 y.bs.length c6] := Blk.new_at (by simp) _ _
  have qB : Below w.heap.size w ((w.alloc (.cells #[.int .i64 x.n0, .int .i64 x.n1, .int .i64 x.n2, .int .i64 x.n3, .int .i64 x.n4, .int .i64 x.n5, .int .i64 x.n6, .slice A1 x.vs.length c1, .int .u64 (U64 x.n8), .int .u64 (U64 x.n9), .int .u64 (U64 x.n10), .int .u64 (U64 x.n11), .slice A2 x.is.length c2, .slice A3 x.bs.length c3] 65)).alloc (.cells #[.int .i64 y.n0, .int .i64 y.n1, .int .i64 y.n2, .int .i64 y.n3, .int .i64 y.n4, .int .i64 y.n5, .int .i64 y.n6, .slice A4 y.vs.length c4, .int .u64 (U64 y.n8), .int .u64 (U64 y.n9), .int .u64 (U64 y.n10), .int .u64 (U64 y.n11), .slice A5 y.is.length c5, .slice A6 y.bs.length c6] 65)) := ((Below.refl _ w).alloc (Nat.le_refl _) _).alloc (by simp) _
  have C1 := hide (fun (w1 : World) (hb : Below w.heap.size w w1) => rrep_any x A1 c1 A2 c2 A3 c3 B w1 (hD.below (hb.mono hB)) (hE.below (hb.mono hB)) (hF.below (hb.mono hB)) hx (by have := hb.size; omega) h1 h2 h3)
  have C2 := hide (fun (w1 : World) (hb : Below w.heap.size w w1) => rrep_any y A4 c4 A5 c5 A6 c6 B w1 (hD'.below (hb.mono hB)) (hE'.below (hb.mono hB)) (hF'.below (hb.mono hB)) hy (by have := hb.size; omega) h4 h5 h6)
  have hf1 := x.flat_len
  have hf2 := y.flat_len
  have C25 := hide (fun (A A' : Option Addr) (c c' B1 B2 : Nat) (w1 : World) (k1 : Sl w1 B1 A x.flat.length (x.flat.map (Value.int .i64))) (k2 : Sl w1 B2 A' y.flat.length (y.flat.map (Value.int .i64))) => same_any A A' x.flat.length c B1 y.flat.length c' B2 x.flat y.flat w1 k1 (by omega) k2 (by omega))
  clear hD hE hF hD' hE' hF' hx hy
  unfold NumsR at C1 C2
  unfold SameEnd at C25
  generalize hM : x.flat.length = M at *
  generalize hN : y.flat.length = N at *
  clear hM hN hf1 hf2
  unfold RepD.cells
  go_enter Try.func35, Try.ntmps35
  go_upto_region 1 with (fail)
  generalize ((w.alloc (.cells #[.int .i64 x.n0, .int .i64 x.n1, .int .i64 x.n2, .int .i64 x.n3, .int .i64 x.n4, .int .i64 x.n5, .int .i64 x.n6, .slice A1 x.vs.length c1, .int .u64 (U64 x.n8), .int .u64 (U64 x.n9), .int .u64 (U64 x.n10), .int .u64 (U64 x.n11), .slice A2 x.is.length c2, .slice A3 x.bs.length c3] 65)).alloc (.cells #[.int .i64 y.n0, .int .i64 y.n1, .int .i64 y.n2, .int .i64 y.n3, .int .i64 y.n4, .int .i64 y.n5, .int .i64 y.n6, .slice A4 y.vs.length c4, .int .u64 (U64 y.n8), .int .u64 (U64 y.n9), .int .u64 (U64 y.n10), .int .u64 (U64 y.n11), .slice A5 y.is.length c5, .slice A6 y.bs.length c6] 65)) = w0 at *
  have P0 := hide qP
  have Q0 := hide qQ
  have B0 := hide qB
  have hs0 := qB.size
  clear qP qQ qB
  go_region_held3 (fun w' => w'.cell? ⟨w.heap.size, 0, none⟩ = some (.int .i64 x.n0) ∧ w'.cell? ⟨w.heap.size, 1, none⟩ = some (.int .i64 x.n1) ∧ w'.cell? ⟨w.heap.size, 2, none⟩ = some (.int .i64 x.n2) ∧ w'.cell? ⟨w.heap.size, 3, none⟩ = some (.int .i64 x.n3) ∧ w'.cell? ⟨w.heap.size, 4, none⟩ = some (.int .i64 x.n4) ∧ w'.cell? ⟨w.heap.size, 5, none⟩ = some (.int .i64 x.n5) ∧ w'.cell? ⟨w.heap.size, 6, none⟩ = some (.int .i64 x.n6) ∧ w'.cell? ⟨w.heap.size, 7, none⟩ = some (.slice A1 x.vs.length c1) ∧ w'.cell? ⟨w.heap.size, 8, none⟩ = some (.int .u64 (U64 x.n8)) ∧ w'.cell? ⟨w.heap.size, 9, none⟩ = some (.int .u64 (U64 x.n9)) ∧ w'.cell? ⟨w.heap.size, 10, none⟩ = some (.int .u64 (U64 x.n10)) ∧ w'.cell? ⟨w.heap.size, 11, none⟩ = some (.int .u64 (U64 x.n11)) ∧ w'.cell? ⟨w.heap.size, 12, none⟩ = some (.slice A2 x.is.length c2) ∧ w'.cell? ⟨w.heap.size, 13, none⟩ = some (.slice A3 x.bs.length c3) ∧ w'.cell? ⟨w.heap.size + 1, 0, none⟩ = some (.int .i64 y.n0) ∧ w'.cell? ⟨w.heap.size + 1, 1, none⟩ = some (.int .i64 y.n1) ∧ w'.cell? ⟨w.heap.size + 1, 2, none⟩ = some (.int .i64 y.n2) ∧ w'.cell? ⟨w.heap.size + 1, 3, none⟩ = some (.int .i64 y.n3) ∧ w'.cell? ⟨w.heap.size + 1, 4, none⟩ = some (.int .i64 y.n4) ∧ w'.cell? ⟨w.heap.size + 1, 5, none⟩ = some (.int .i64 y.n5) ∧ w'.cell? ⟨w.heap.size + 1, 6, none⟩ = some (.int .i64 y.n6) ∧ w'.cell? ⟨w.heap.size + 1, 7, none⟩ = some (.slice A4 y.vs.length c4) ∧ w'.cell? ⟨w.heap.size + 1, 8, none⟩ = some (.int .u64 (U64 y.n8)) ∧ w'.cell? ⟨w.heap.size + 1, 9, none⟩ = some (.int .u64 (U64 y.n9)) ∧ w'.cell? ⟨w.heap.size + 1, 10, none⟩ = some (.int .u64 (U64 y.n10)) ∧ w'.cell? ⟨w.heap.size + 1, 11, none⟩ = some (.int .u64 (U64 y.n11)) ∧ w'.cell? ⟨w.heap.size + 1, 12, none⟩ = some (.slice A5 y.is.length c5) ∧ w'.cell? ⟨w.heap.size + 1, 13, none⟩ = some (.slice A6 y.bs.length c6)) ((refine held28 P0.out Q0.out ?_; (repeat (first | with_reducible exact Below.refl _ _ | with_reducible exact hbA | with_reducible exact hbB | with_reducible refine Below.drew ?_ | with_reducible refine below_drewN ?_ _)))) (first | (go_at_call 50; with_reducible refine (C1.out _ ?_).mono ?_; (· refine B0.out.trans (Below.mono (B := w0.heap.size) ?_ hs0); (repeat (first | with_reducible exact Below.refl _ _ | with_reducible exact hbA | with_reducible exact hbB | with_reducible refine Below.drew ?_ | with_reducible refine below_drewN ?_ _))); rintro e w1 ⟨A, c, rfl, hown, hb1⟩; refine have_ (p := Below w0.heap.size w0 w1) ?_ ?_; (· refine Bl.call' ?_ hb1; (repeat (first | with_reducible exact Below.refl _ _ | with_reducible exact hbA | with_reducible exact hbB | with_reducible refine Below.drew ?_ | with_reducible refine below_drewN ?_ _))); intro hbA) | (go_at_call 50; with_reducible refine (C2.out _ ?_).mono ?_; (· refine B0.out.trans (Below.mono (B := w0.heap.size) ?_ hs0); (repeat (first | with_reducible exact Below.refl _ _ | with_reducible exact hbA | with_reducible exact hbB | with_reducible refine Below.drew ?_ | with_reducible refine below_drewN ?_ _))); rintro e w2 ⟨A', c', rfl, hown2, hb2⟩; refine have_ (p := Below w0.heap.size w0 w2) ?_ ?_; (· refine Bl.call' ?_ hb2; (repeat (first | with_reducible exact Below.refl _ _ | with_reducible exact hbA | with_reducible exact hbB | with_reducible refine Below.drew ?_ | with_reducible refine below_drewN ?_ _))); intro hbB; have S1 := (Sl.of_own hown).below hb2) | (go_at_call 25; refine (C25.out A A' c c' _ _ w2 S1 (Sl.of_own hown2)).mono ?_; rintro e w3 ⟨rfl, k, rfl⟩))
  all_goals
    go_wp2
    go_ret
    exact ⟨rfl, below_drewN (B0.out.trans (hbB.mono hs0)) k⟩
end Go.Proofs.Ytlcgpldngooekaa
