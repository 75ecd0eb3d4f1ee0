/- Ratios, wide numbers and replies written to a tape: the contracts. -/
import Derived.Test.YtlcgpldngooekaaWE
import Derived.Test.YtlcgpldngooekaaWD
namespace Go.Proofs.Ytlcgpldngooekaa
open Go.RowKit
set_option linter.unusedVariables false
set_option maxRecDepth 100000
set_option maxRecDepth 100000 in
set_option maxHeartbeats 2000000 in
theorem ratio_wr {base tb c g o : Nat} {xs : List Int} {A : Option Addr} {w : World} {tg : TypeId} {cs : Array Value} {x y : Int} (hT : TW base tb xs w A c) (hG : Blk w g tg cs) (hx : cs[o]? = some (.int .i64 x)) (hy : cs[o + 1]? = some (.int .i64 y)) (hfx : Fit x) (hfy : Fit y) (hlen : xs.length ≤ 1000000) (hgt : g ≠ tb) (hgb : g < base) :
    Calls Try.prog 62 #[.pointer (some ⟨tb, 0, none⟩), .pointer (some ⟨g, o, none⟩)] w (IntW base tb xs A c (writeL [x, y]) w) := by
  have htb := hT.2.2.1
  have T0 := hide hT
  have G0 := hide hG
  have K0 := hide (MovT.refl tb w (.slice A xs.length c))
  have HX := hide hx
  have HY := hide hy
  have FX := hide hfx
  have FY := hide hfy
  clear hT hG hx hy hfx hfy
  go_enter Try.func62, Try.ntmps62
  go_wp2_with (fail)
  refine (int_wr T0.out G0.out (o := o) HX.out FX.out (by omega)).mono ?_
  rintro e w1 ⟨rfl, B1, d1, hT, hm⟩
  have hq0 : ∀ q, (Value.slice A xs.length c).ownBlock = some q → base ≤ q := fun q hq => (T0.out.2.1.lt q hq).1
  have G1 := hide (hm.blk G0.out hgt (fun q hq => by have := hq0 q hq; omega))
  have hl1 : (xs ++ codeN x).length ≤ xs.length + 10 := by have := (codeN_len x).1; simp only [List.length_append]; omega
  generalize hY : xs ++ codeN x = ys1 at *
  have HY1 := hide hY
  have T1 := hide hT
  have K1 := hide (K0.out.trans hm)
  clear hT hm hY T0 G0 K0 hq0 
  go_wp2_with (fail)
  refine (int_wr T1.out G1.out (o := o + 1) HY.out FY.out (by omega)).mono ?_
  rintro e w2 ⟨rfl, B2, d2, hT, hm⟩
  have hq1 : ∀ q, (Value.slice B1 ys1.length d1).ownBlock = some q → base ≤ q := fun q hq => (T1.out.2.1.lt q hq).1
  have G2 := hide (hm.blk G1.out hgt (fun q hq => by have := hq1 q hq; omega))
  have hl2 : (ys1 ++ codeN y).length ≤ ys1.length + 10 := by have := (codeN_len y).1; simp only [List.length_append]; omega
  generalize hY : ys1 ++ codeN y = ys2 at *
  have HY2 := hide hY
  have T2 := hide hT
  have K2 := hide (K1.out.trans hm)
  clear hT hm hY T1 G1 K1 hq1 
  go_wp2
  go_end0
  have hfin : xs ++ writeL [x, y] = ys2 := by rw [← HY2.out, ← HY1.out]; simp [writeL]
  exact ⟨rfl, B2, d2, by rw [hfin]; exact T2.out, by rw [hfin]; exact K2.out⟩
set_option maxRecDepth 100000 in
set_option maxHeartbeats 2000000 in
theorem wide_wr {base tb c g o : Nat} {xs : List Int} {A : Option Addr} {w : World} {tg : TypeId} {cs : Array Value} {x y : Int} (hT : TW base tb xs w A c) (hG : Blk w g tg cs) (hx : cs[o]? = some (.int .u64 (U64 x))) (hy : cs[o + 1]? = some (.int .u64 (U64 y))) (hfx : Fit x) (hfy : Fit y) (hlen : xs.length ≤ 1000000) (hgt : g ≠ tb) (hgb : g < base) :
    Calls Try.prog 63 #[.pointer (some ⟨tb, 0, none⟩), .pointer (some ⟨g, o, none⟩)] w (IntW base tb xs A c (writeL [x, y]) w) := by
  have htb := hT.2.2.1
  have T0 := hide hT
  have G0 := hide hG
  have K0 := hide (MovT.refl tb w (.slice A xs.length c))
  have HX := hide hx
  have HY := hide hy
  have FX := hide hfx
  have FY := hide hfy
  clear hT hG hx hy hfx hfy
  go_enter Try.func63, Try.ntmps63
  go_wp2_with (fail)
  refine (word_wr T0.out G0.out (o := o) HX.out FX.out (by omega) hgt hgb).mono ?_
  rintro e w1 ⟨rfl, B1, d1, hT, hm⟩
  have hq0 : ∀ q, (Value.slice A xs.length c).ownBlock = some q → base ≤ q := fun q hq => (T0.out.2.1.lt q hq).1
  have G1 := hide (hm.blk G0.out hgt (fun q hq => by have := hq0 q hq; omega))
  have hl1 : (xs ++ codeN x).length ≤ xs.length + 10 := by have := (codeN_len x).1; simp only [List.length_append]; omega
  generalize hY : xs ++ codeN x = ys1 at *
  have HY1 := hide hY
  have T1 := hide hT
  have K1 := hide (K0.out.trans hm)
  clear hT hm hY T0 G0 K0 hq0 
  go_wp2_with (fail)
  refine (word_wr T1.out G1.out (o := o + 1) HY.out FY.out (by omega) hgt hgb).mono ?_
  rintro e w2 ⟨rfl, B2, d2, hT, hm⟩
  have hq1 : ∀ q, (Value.slice B1 ys1.length d1).ownBlock = some q → base ≤ q := fun q hq => (T1.out.2.1.lt q hq).1
  have G2 := hide (hm.blk G1.out hgt (fun q hq => by have := hq1 q hq; omega))
  have hl2 : (ys1 ++ codeN y).length ≤ ys1.length + 10 := by have := (codeN_len y).1; simp only [List.length_append]; omega
  generalize hY : ys1 ++ codeN y = ys2 at *
  have HY2 := hide hY
  have T2 := hide hT
  have K2 := hide (K1.out.trans hm)
  clear hT hm hY T1 G1 K1 hq1 
  go_wp2
  go_end0
  have hfin : xs ++ writeL [x, y] = ys2 := by rw [← HY2.out, ← HY1.out]; simp [writeL]
  exact ⟨rfl, B2, d2, by rw [hfin]; exact T2.out, by rw [hfin]; exact K2.out⟩
set_option maxRecDepth 100000 in
set_option maxHeartbeats 2000000 in
theorem rep_wr {base tb g B c1 c2 c3 : Nat} {A1 A2 A3 : Option Addr} {w : World} {x : RepD} (hbase : base = w.heap.size + 1) (hT : Blk w tb 78 #[.slice none 0 0, .int .i64 0, .bool false, .bool false]) (hG : Blk w g 65 #[.int .i64 x.n0, .int .i64 x.n1, .int .i64 x.n2, .int .i64 x.n3, .int .i64 x.n4, .int .i64 x.n5, .int .i64 x.n6, .slice A1 x.vs.length c1, .int .u64 (U64 x.n8), .int .u64 (U64 x.n9), .int .u64 (U64 x.n10), .int .u64 (U64 x.n11), .slice A2 x.is.length c2, .slice A3 x.bs.length c3]) (hD : Sl w B A1 x.vs.length (x.vs.map (Value.int .i64))) (hE : Sl w B A2 x.is.length (x.is.map (Value.int .i64))) (hH : Sl w B A3 x.bs.length (x.bs.map (Value.int .u8))) (hok : x.Ok) (h1 : x.vs.length ≤ 2000) (h2 : x.is.length ≤ 2000) (h3 : x.bs.length ≤ 2000) (hgt : g ≠ tb) (hB : B ≤ tb) (hBg : B ≤ g) :
    Calls Try.prog 49 #[.pointer (some ⟨tb, 0, none⟩), .pointer (some ⟨g, 0, none⟩)] w (fun e w' => e = .returned (.tuple #[]) ∧ ∃ (A' : Option Addr) (c' : Nat), TW base tb (writeL x.flat) w' A' c' ∧ MovT tb w w' (.slice none 0 0) (.slice A' (writeL x.flat).length c')) := by
  obtain ⟨⟨f0, f1, f2, f3, f4, f5, f6, f8, f9, f10, f11⟩, hfv, hfi, hfb⟩ := hok
  have htl := hT.lt
  have hgl := hG.lt
  have hgb : g < base := by omega
  have g0 : w.cell? ⟨g, 0, none⟩ = some (.int .i64 x.n0) := hG.cell 0
  have T0 := hide (show TW base tb [] (w.alloc (.cells #[.int .i64 x.n0] 3)) none 0 from ⟨hT.alloc _, own_none _ _, by omega, by simp; omega⟩)
  have C56 := hide (small_wr (o := 0) T0.out (Blk.new w 3 #[.int .i64 x.n0]) rfl f0 (by simp) (by omega) (by omega))
  have G0 := hide (hG.alloc (.cells #[.int .i64 x.n0] 3))
  have D0 := hide (hD.alloc (by omega) (.cells #[.int .i64 x.n0] 3))
  have E0 := hide (hE.alloc (by omega) (.cells #[.int .i64 x.n0] 3))
  have H0 := hide (hH.alloc (by omega) (.cells #[.int .i64 x.n0] 3))
  have X0 := hide (Blk.new w 3 #[.int .i64 x.n0])
  have K0 := hide ((MovT.refl tb w (.slice none 0 0)).alloc (.cells #[.int .i64 x.n0] 3))
  have hs0 : (w.alloc (.cells #[.int .i64 x.n0] 3)).heap.size = w.heap.size + 1 := by simp
  have F0 := hide f0
  have F1 := hide f1
  have F2 := hide f2
  have F3 := hide f3
  have F4 := hide f4
  have F5 := hide f5
  have F6 := hide f6
  have F8 := hide f8
  have F9 := hide f9
  have F10 := hide f10
  have F11 := hide f11
  have FV := hide hfv
  have FI := hide hfi
  have FB := hide hfb
  clear hT hG hD hE hH hfv hfi hfb f0 f1 f2 f3 f4 f5 f6 f8 f9 f10 f11
  unfold IntW at C56
  go_enter Try.func49, Try.ntmps49
  go_wp2_with (fail)
  refine C56.out.mono ?_
  rintro e w1 ⟨rfl, B1, d1, hT, hm⟩
  have qX := hm.blk X0.out (by omega) (fun q hq => by cases hq)
  have x1c : w1.cell? ⟨w.heap.size, 0, none⟩ = some (.int .i64 x.n0) := qX.cell 0
  have qG := hm.blk G0.out hgt (fun q hq => by cases hq)
  have g1 : w1.cell? ⟨g, 0, none⟩ = some (.int .i64 x.n0) := qG.cell 0
  have f1 := qG.frozen 0
  have qD := hm.sl D0.out hB (fun q hq => by cases hq) (by omega)
  have qE := hm.sl E0.out hB (fun q hq => by cases hq) (by omega)
  have qH := hm.sl H0.out hB (fun q hq => by cases hq) (by omega)
  have hs1 := hm.size
  have qm : MovT tb w1 (w1.setCell ⟨g, 0, none⟩ (.int .i64 x.n0)) (.slice none 0 0) (.slice none 0 0) := (MovT.refl tb w1 _).set_same qG rfl
  have D1 := hide (qm.sl qD hB (fun q hq => by cases hq) (by omega))
  have E1 := hide (qm.sl qE hB (fun q hq => by cases hq) (by omega))
  have H1 := hide (qm.sl qH hB (fun q hq => by cases hq) (by omega))
  have G1 := hide (show Blk (w1.setCell ⟨g, 0, none⟩ (.int .i64 x.n0)) g 65 #[.int .i64 x.n0, .int .i64 x.n1, .int .i64 x.n2, .int .i64 x.n3, .int .i64 x.n4, .int .i64 x.n5, .int .i64 x.n6, .slice A1 x.vs.length c1, .int .u64 (U64 x.n8), .int .u64 (U64 x.n9), .int .u64 (U64 x.n10), .int .u64 (U64 x.n11), .slice A2 x.is.length c2, .slice A3 x.bs.length c3] from qG.set_ 0 _)
  have T1 := hide (hT.set_other (o := 0) (Ne.symm hgt) hgb (.int .i64 x.n0))
  have K1 := hide ((K0.out.trans hm).set_same (o := 0) (u := .int .i64 x.n0) qG rfl)
  have hl1 : ([] ++ codeN x.n0).length ≤ 10 := by have := (codeN_len x.n0).1; simp only [List.length_append, List.length_nil]; omega
  generalize hY : [] ++ codeN x.n0 = ys1 at *
  have HY1 := hide hY
  clear hT hm hY T0 G0 K0 D0 E0 H0 X0 C56 qX qD qE qH qm qG hs1 hs0
  go_wp2_with (fail)
  generalize w1.setCell ⟨g, 0, none⟩ (.int .i64 x.n0) = w1s at *
  clear x1c g1 f1 g0
  refine (ratio_wr T1.out G1.out (o := 1) rfl rfl F1.out F2.out (by omega) hgt hgb).mono ?_
  rintro e w2 ⟨rfl, B2, d2, hT, hm⟩
  have hq1 : ∀ q, (Value.slice B1 ys1.length d1).ownBlock = some q → base ≤ q := fun q hq => (T1.out.2.1.lt q hq).1
  have G2 := hide (hm.blk G1.out hgt (fun q hq => by have := hq1 q hq; omega))
  have D2 := hide (hm.sl D1.out hB (fun q hq => by have := hq1 q hq; omega) (by have := T1.out.2.2.2; omega))
  have E2 := hide (hm.sl E1.out hB (fun q hq => by have := hq1 q hq; omega) (by have := T1.out.2.2.2; omega))
  have H2 := hide (hm.sl H1.out hB (fun q hq => by have := hq1 q hq; omega) (by have := T1.out.2.2.2; omega))
  have hl2 : (ys1 ++ writeL [x.n1, x.n2]).length ≤ ys1.length + 20 := by have := (writeL_len [x.n1, x.n2]).1; simp only [List.length_cons, List.length_nil] at this; simp only [List.length_append]; omega
  generalize hY : ys1 ++ writeL [x.n1, x.n2] = ys2 at *
  have HY2 := hide hY
  have T2 := hide hT
  have K2 := hide (K1.out.trans hm)
  clear hT hm hY T1 G1 K1 hq1 D1 E1 H1
  go_wp2_with (fail)
  refine (ratio_wr T2.out G2.out (o := 3) rfl rfl F3.out F4.out (by omega) hgt hgb).mono ?_
  rintro e w3 ⟨rfl, B3, d3, hT, hm⟩
  have hq2 : ∀ q, (Value.slice B2 ys2.length d2).ownBlock = some q → base ≤ q := fun q hq => (T2.out.2.1.lt q hq).1
  have G3 := hide (hm.blk G2.out hgt (fun q hq => by have := hq2 q hq; omega))
  have D3 := hide (hm.sl D2.out hB (fun q hq => by have := hq2 q hq; omega) (by have := T2.out.2.2.2; omega))
  have E3 := hide (hm.sl E2.out hB (fun q hq => by have := hq2 q hq; omega) (by have := T2.out.2.2.2; omega))
  have H3 := hide (hm.sl H2.out hB (fun q hq => by have := hq2 q hq; omega) (by have := T2.out.2.2.2; omega))
  have hl3 : (ys2 ++ writeL [x.n3, x.n4]).length ≤ ys2.length + 20 := by have := (writeL_len [x.n3, x.n4]).1; simp only [List.length_cons, List.length_nil] at this; simp only [List.length_append]; omega
  generalize hY : ys2 ++ writeL [x.n3, x.n4] = ys3 at *
  have HY3 := hide hY
  have T3 := hide hT
  have K3 := hide (K2.out.trans hm)
  clear hT hm hY T2 G2 K2 hq2 D2 E2 H2
  go_wp2_with (fail)
  refine (ratio_wr T3.out G3.out (o := 5) rfl rfl F5.out F6.out (by omega) hgt hgb).mono ?_
  rintro e w4 ⟨rfl, B4, d4, hT, hm⟩
  have hq3 : ∀ q, (Value.slice B3 ys3.length d3).ownBlock = some q → base ≤ q := fun q hq => (T3.out.2.1.lt q hq).1
  have G4 := hide (hm.blk G3.out hgt (fun q hq => by have := hq3 q hq; omega))
  have D4 := hide (hm.sl D3.out hB (fun q hq => by have := hq3 q hq; omega) (by have := T3.out.2.2.2; omega))
  have E4 := hide (hm.sl E3.out hB (fun q hq => by have := hq3 q hq; omega) (by have := T3.out.2.2.2; omega))
  have H4 := hide (hm.sl H3.out hB (fun q hq => by have := hq3 q hq; omega) (by have := T3.out.2.2.2; omega))
  have hl4 : (ys3 ++ writeL [x.n5, x.n6]).length ≤ ys3.length + 20 := by have := (writeL_len [x.n5, x.n6]).1; simp only [List.length_cons, List.length_nil] at this; simp only [List.length_append]; omega
  generalize hY : ys3 ++ writeL [x.n5, x.n6] = ys4 at *
  have HY4 := hide hY
  have T4 := hide hT
  have K4 := hide (K3.out.trans hm)
  clear hT hm hY T3 G3 K3 hq3 D3 E3 H3
  go_wp2_with (fail)
  refine (ints_wr T4.out G4.out (o := 7) rfl D4.out FV.out (by omega) (by omega) hgt hgb hB).mono ?_
  rintro e w5 ⟨rfl, B5, d5, hT, hm⟩
  have hq4 : ∀ q, (Value.slice B4 ys4.length d4).ownBlock = some q → base ≤ q := fun q hq => (T4.out.2.1.lt q hq).1
  have G5 := hide (hm.blk G4.out hgt (fun q hq => by have := hq4 q hq; omega))
  have D5 := hide (hm.sl D4.out hB (fun q hq => by have := hq4 q hq; omega) (by have := T4.out.2.2.2; omega))
  have E5 := hide (hm.sl E4.out hB (fun q hq => by have := hq4 q hq; omega) (by have := T4.out.2.2.2; omega))
  have H5 := hide (hm.sl H4.out hB (fun q hq => by have := hq4 q hq; omega) (by have := T4.out.2.2.2; omega))
  have hl5 : (ys4 ++ writeL ((x.vs.length : Int) :: x.vs)).length ≤ ys4.length + 20010 := by have := (writeL_len ((x.vs.length : Int) :: x.vs)).1; simp only [List.length_cons] at this; simp only [List.length_append]; omega
  generalize hY : ys4 ++ writeL ((x.vs.length : Int) :: x.vs) = ys5 at *
  have HY5 := hide hY
  have T5 := hide hT
  have K5 := hide (K4.out.trans hm)
  clear hT hm hY T4 G4 K4 hq4 D4 E4 H4
  go_wp2_with (fail)
  refine (wide_wr T5.out G5.out (o := 8) rfl rfl F8.out F9.out (by omega) hgt hgb).mono ?_
  rintro e w6 ⟨rfl, B6, d6, hT, hm⟩
  have hq5 : ∀ q, (Value.slice B5 ys5.length d5).ownBlock = some q → base ≤ q := fun q hq => (T5.out.2.1.lt q hq).1
  have G6 := hide (hm.blk G5.out hgt (fun q hq => by have := hq5 q hq; omega))
  have D6 := hide (hm.sl D5.out hB (fun q hq => by have := hq5 q hq; omega) (by have := T5.out.2.2.2; omega))
  have E6 := hide (hm.sl E5.out hB (fun q hq => by have := hq5 q hq; omega) (by have := T5.out.2.2.2; omega))
  have H6 := hide (hm.sl H5.out hB (fun q hq => by have := hq5 q hq; omega) (by have := T5.out.2.2.2; omega))
  have hl6 : (ys5 ++ writeL [x.n8, x.n9]).length ≤ ys5.length + 20 := by have := (writeL_len [x.n8, x.n9]).1; simp only [List.length_cons, List.length_nil] at this; simp only [List.length_append]; omega
  generalize hY : ys5 ++ writeL [x.n8, x.n9] = ys6 at *
  have HY6 := hide hY
  have T6 := hide hT
  have K6 := hide (K5.out.trans hm)
  clear hT hm hY T5 G5 K5 hq5 D5 E5 H5
  go_wp2_with (fail)
  refine (wide_wr T6.out G6.out (o := 10) rfl rfl F10.out F11.out (by omega) hgt hgb).mono ?_
  rintro e w7 ⟨rfl, B7, d7, hT, hm⟩
  have hq6 : ∀ q, (Value.slice B6 ys6.length d6).ownBlock = some q → base ≤ q := fun q hq => (T6.out.2.1.lt q hq).1
  have G7 := hide (hm.blk G6.out hgt (fun q hq => by have := hq6 q hq; omega))
  have D7 := hide (hm.sl D6.out hB (fun q hq => by have := hq6 q hq; omega) (by have := T6.out.2.2.2; omega))
  have E7 := hide (hm.sl E6.out hB (fun q hq => by have := hq6 q hq; omega) (by have := T6.out.2.2.2; omega))
  have H7 := hide (hm.sl H6.out hB (fun q hq => by have := hq6 q hq; omega) (by have := T6.out.2.2.2; omega))
  have hl7 : (ys6 ++ writeL [x.n10, x.n11]).length ≤ ys6.length + 20 := by have := (writeL_len [x.n10, x.n11]).1; simp only [List.length_cons, List.length_nil] at this; simp only [List.length_append]; omega
  generalize hY : ys6 ++ writeL [x.n10, x.n11] = ys7 at *
  have HY7 := hide hY
  have T7 := hide hT
  have K7 := hide (K6.out.trans hm)
  clear hT hm hY T6 G6 K6 hq6 D6 E6 H6
  go_wp2_with (fail)
  refine (ints_wr T7.out G7.out (o := 12) rfl E7.out FI.out (by omega) (by omega) hgt hgb hB).mono ?_
  rintro e w8 ⟨rfl, B8, d8, hT, hm⟩
  have hq7 : ∀ q, (Value.slice B7 ys7.length d7).ownBlock = some q → base ≤ q := fun q hq => (T7.out.2.1.lt q hq).1
  have G8 := hide (hm.blk G7.out hgt (fun q hq => by have := hq7 q hq; omega))
  have D8 := hide (hm.sl D7.out hB (fun q hq => by have := hq7 q hq; omega) (by have := T7.out.2.2.2; omega))
  have E8 := hide (hm.sl E7.out hB (fun q hq => by have := hq7 q hq; omega) (by have := T7.out.2.2.2; omega))
  have H8 := hide (hm.sl H7.out hB (fun q hq => by have := hq7 q hq; omega) (by have := T7.out.2.2.2; omega))
  have hl8 : (ys7 ++ writeL ((x.is.length : Int) :: x.is)).length ≤ ys7.length + 20010 := by have := (writeL_len ((x.is.length : Int) :: x.is)).1; simp only [List.length_cons] at this; simp only [List.length_append]; omega
  generalize hY : ys7 ++ writeL ((x.is.length : Int) :: x.is) = ys8 at *
  have HY8 := hide hY
  have T8 := hide hT
  have K8 := hide (K7.out.trans hm)
  clear hT hm hY T7 G7 K7 hq7 D7 E7 H7
  go_wp2_with (fail)
  refine (text_wr T8.out G8.out (o := 13) rfl H8.out FB.out (by omega) (by omega) hgt hgb hB).mono ?_
  rintro e w9 ⟨rfl, B9, d9, hT, hm⟩
  have hq8 : ∀ q, (Value.slice B8 ys8.length d8).ownBlock = some q → base ≤ q := fun q hq => (T8.out.2.1.lt q hq).1
  have G9 := hide (hm.blk G8.out hgt (fun q hq => by have := hq8 q hq; omega))
  have D9 := hide (hm.sl D8.out hB (fun q hq => by have := hq8 q hq; omega) (by have := T8.out.2.2.2; omega))
  have E9 := hide (hm.sl E8.out hB (fun q hq => by have := hq8 q hq; omega) (by have := T8.out.2.2.2; omega))
  have H9 := hide (hm.sl H8.out hB (fun q hq => by have := hq8 q hq; omega) (by have := T8.out.2.2.2; omega))
  have hl9 : (ys8 ++ writeL ((x.bs.length : Int) :: x.bs)).length ≤ ys8.length + 20010 := by have := (writeL_len ((x.bs.length : Int) :: x.bs)).1; simp only [List.length_cons] at this; simp only [List.length_append]; omega
  generalize hY : ys8 ++ writeL ((x.bs.length : Int) :: x.bs) = ys9 at *
  have HY9 := hide hY
  have T9 := hide hT
  have K9 := hide (K8.out.trans hm)
  clear hT hm hY T8 G8 K8 hq8 D8 E8 H8
  go_wp2
  go_end0
  have hfin : writeL x.flat = ys9 := by rw [← HY9.out, ← HY8.out, ← HY7.out, ← HY6.out, ← HY5.out, ← HY4.out, ← HY3.out, ← HY2.out, ← HY1.out]; simp [writeL, RepD.flat, flatR]
  exact ⟨rfl, B9, d9, by rw [hfin]; exact T9.out, by rw [hfin]; exact K9.out⟩
set_option maxRecDepth 100000 in
set_option maxHeartbeats 2000000 in
theorem encr_any (v : Value) (x : RepD) (B : Nat) (w : World) (h : HoldsR w B v x) (hok : x.Ok) (hB : B ≤ w.heap.size) (h1 : x.vs.length ≤ 2000) (h2 : x.is.length ≤ 2000) (h3 : x.bs.length ≤ 2000) :
    Calls Try.prog 32 #[v] w (CodeR (writeL x.flat) w) := by
  obtain ⟨A1, c1, A2, c2, A3, c3, rfl, hD, hE, hH⟩ := h
  have hfl := x.flat_len
  have hwl := (writeL_len x.flat).1
  have hBw : Below w.heap.size w ((w.alloc (.cells #[.int .i64 x.n0, .int .i64 x.n1, .int .i64 x.n2, .int .i64 x.n3, .int .i64 x.n4, .int .i64 x.n5, .int .i64 x.n6, .slice A1 x.vs.length c1, .int .u64 (U64 x.n8), .int .u64 (U64 x.n9), .int .u64 (U64 x.n10), .int .u64 (U64 x.n11), .slice A2 x.is.length c2, .slice A3 x.bs.length c3] 65)).alloc (.cells #[.slice none 0 0, .int .i64 0, .bool false, .bool false] 78)) := ((Below.refl _ w).alloc (Nat.le_refl _) _).alloc (by simp) _
  have hT : Blk ((w.alloc (.cells #[.int .i64 x.n0, .int .i64 x.n1, .int .i64 x.n2, .int .i64 x.n3, .int .i64 x.n4, .int .i64 x.n5, .int .i64 x.n6, .slice A1 x.vs.length c1, .int .u64 (U64 x.n8), .int .u64 (U64 x.n9), .int .u64 (U64 x.n10), .int .u64 (U64 x.n11), .slice A2 x.is.length c2, .slice A3 x.bs.length c3] 65)).alloc (.cells #[.slice none 0 0, .int .i64 0, .bool false, .bool false] 78)) (w.heap.size + 1) 78 #[.slice none 0 0, .int .i64 0, .bool false, .bool false] := Blk.new_at (by simp) _ _
  have C49 := hide (rep_wr (B := B) (base := w.heap.size + 3) (by simp) hT ((Blk.new_at rfl 65 #[.int .i64 x.n0, .int .i64 x.n1, .int .i64 x.n2, .int .i64 x.n3, .int .i64 x.n4, .int .i64 x.n5, .int .i64 x.n6, .slice A1 x.vs.length c1, .int .u64 (U64 x.n8), .int .u64 (U64 x.n9), .int .u64 (U64 x.n10), .int .u64 (U64 x.n11), .slice A2 x.is.length c2, .slice A3 x.bs.length c3]).alloc (.cells #[.slice none 0 0, .int .i64 0, .bool false, .bool false] 78)) ((hD.alloc hB _).alloc (by simp; omega) _) ((hE.alloc hB _).alloc (by simp; omega) _) ((hH.alloc hB _).alloc (by simp; omega) _) hok h1 h2 h3 (by omega) (by omega) (by omega))
  have HBW := hide hBw
  clear hD hE hH hT hBw
  unfold RepD.cells
  go_enter Try.func32, Try.ntmps32
  go_wp2_with (fail)
  refine C49.out.mono ?_
  rintro e w1 ⟨rfl, A', c', hT, hM⟩
  have hb1 := HBW.out.trans (hM.below0 (B := w.heap.size) (by omega) (fun k hk => by cases hk) (by simp; omega))
  have HB1 := hide hb1
  have C48 := hide (wrote_any hT (by omega))
  have HO := hide (own_base hT.2.1 (Nat.le_add_right w.heap.size 3))
  clear hT hM hb1 C49 HBW hok hfl hwl
  go_wp2_with (fail)
  refine C48.out.mono ?_
  rintro e w2 ⟨rfl, rfl⟩
  go_wp2
  go_ret2
  exact ⟨A', c', rfl, HO.out, HB1.out⟩
end Go.Proofs.Ytlcgpldngooekaa
