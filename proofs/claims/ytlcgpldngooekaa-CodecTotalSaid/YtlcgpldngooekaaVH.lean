/- Ratios, wide numbers and replies read from a tape: the contracts. | A reply read from a tape: the contract. -/
import Derived.Test.YtlcgpldngooekaaWD
import Derived.Test.YtlcgpldngooekaaVE
namespace Go.Proofs.Ytlcgpldngooekaa
open Go.RowKit
set_option linter.unusedVariables false
theorem two_at {cs : Array Value} {o : Nat} {u v : Value} (h : cs[o + 1]? = some u) : (cs.setIfInBounds o v)[o + 1]? = some u := by
  rw [Array.getElem?_setIfInBounds_ne (by omega)]; exact h
def TwoR (f : Int → Value) (l : List Int) (A : Option Addr) (n c tb a : Nat) (bad : Bool) (g o : Nat) (tg : TypeId) (cs : Array Value) (w : World) (e : Ending) (w' : World) : Prop :=
  e = .returned (.tuple #[]) ∧ ∃ (x y : Int) (a' : Nat) (bad' : Bool) (s : Option (List Int)), Fit x ∧ Fit y ∧ Took Any (leftV l a bad) s x ∧ Took Any s (leftV l a' bad') y ∧ TR l A n c w' tb a' bad' ∧ Blk w' g tg ((cs.setIfInBounds o (f x)).setIfInBounds (o + 1) (f y)) ∧ Keep tb g w w'
set_option maxRecDepth 100000 in
set_option maxHeartbeats 2000000 in
theorem ratio_rd {l : List Int} {A : Option Addr} {n c B tb a : Nat} {bad : Bool} {w : World} {g o : Nat} {tg : TypeId} {cs : Array Value} {x y : Int} (hT : TR l A n c w tb a bad) (hS : Sl w B A n (l.map (Value.int .u8))) (hBt : B ≤ tb) (hBg : B ≤ g) (hb : Bytes l) (hn : n ≤ 1000000000) (hG : Blk w g tg cs) (hx : cs[o]? = some (.int .i64 x)) (hy : cs[o + 1]? = some (.int .i64 y)) (hfx : Fit x) (hfy : Fit y) (hne : g ≠ tb) :
    Calls Try.prog 62 #[.pointer (some ⟨tb, 0, none⟩), .pointer (some ⟨g, o, none⟩)] w (TwoR (Value.int .i64) l A n c tb a bad g o tg cs w) := by
  have hn2 : n ≤ 9223372036854775000 := by omega
  have htl := hT.1.lt
  have hgl := hG.lt
  have T0 := hide hT
  have S0 := hide hS
  have G0 := hide hG
  have HX := hide hx
  have HY := hide hy
  have FX := hide hfx
  have FY := hide hfy
  have HB := hide hb
  clear hT hS hG hb hx hy hfx hfy
  go_enter Try.func62, Try.ntmps62
  go_wp2_with (fail)
  refine (int_rd T0.out S0.out HB.out hn2 G0.out (o := o) HX.out FX.out hne).mono ?_
  rintro e w1 ⟨rfl, x1, a1, b1, hf, hs, hT, hG, hK⟩
  have F1 := hide hf
  have U1 := hide hs.took
  have G1 := hide hG
  have T1 := hide hT
  have S1 := hide (hK.sl S0.out hBt hBg (by omega))
  have K1 := hide hK
  have hw1 : w.heap.size ≤ w1.heap.size := K1.out.size
  clear hf hs hT hG hK T0 S0 G0
  go_wp2_with (fail)
  refine (int_rd T1.out S1.out HB.out hn2 G1.out (o := o + 1) (two_at HY.out) FY.out hne).mono ?_
  rintro e w2 ⟨rfl, x2, a2, b2, hf, hs, hT, hG, hK⟩
  have F2 := hide hf
  have U2 := hide hs.took
  have G2 := hide hG
  have T2 := hide hT
  have K2 := hide (K1.out.trans hK)
  clear hf hs hT hG hK T1 S1 G1 K1
  go_wp2
  go_end0
  exact ⟨rfl, x1, x2, a2, b2, _, F1.out, F2.out, U1.out, U2.out, T2.out, G2.out, K2.out⟩
set_option maxRecDepth 100000 in
set_option maxHeartbeats 2000000 in
theorem wide_rd {l : List Int} {A : Option Addr} {n c B tb a : Nat} {bad : Bool} {w : World} {g o : Nat} {tg : TypeId} {cs : Array Value} {x y : Int} (hT : TR l A n c w tb a bad) (hS : Sl w B A n (l.map (Value.int .u8))) (hBt : B ≤ tb) (hBg : B ≤ g) (hb : Bytes l) (hn : n ≤ 1000000000) (hG : Blk w g tg cs) (hx : cs[o]? = some (.int .u64 (U64 x))) (hy : cs[o + 1]? = some (.int .u64 (U64 y))) (hfx : Fit x) (hfy : Fit y) (hne : g ≠ tb) :
    Calls Try.prog 63 #[.pointer (some ⟨tb, 0, none⟩), .pointer (some ⟨g, o, none⟩)] w (TwoR (fun n => Value.int .u64 (U64 n)) l A n c tb a bad g o tg cs w) := by
  have hn2 : n ≤ 9223372036854775000 := by omega
  have htl := hT.1.lt
  have hgl := hG.lt
  have T0 := hide hT
  have S0 := hide hS
  have G0 := hide hG
  have HX := hide hx
  have HY := hide hy
  have FX := hide hfx
  have FY := hide hfy
  have HB := hide hb
  clear hT hS hG hb hx hy hfx hfy
  go_enter Try.func63, Try.ntmps63
  go_wp2_with (fail)
  refine (word_rd T0.out S0.out (by omega) HB.out hn2 G0.out (o := o) HX.out FX.out hne).mono ?_
  rintro e w1 ⟨rfl, x1, a1, b1, hf, hs, hT, hG, hK⟩
  have F1 := hide hf
  have U1 := hide hs.took
  have G1 := hide hG
  have T1 := hide hT
  have S1 := hide (hK.sl S0.out hBt hBg (by omega))
  have K1 := hide hK
  have hw1 : w.heap.size ≤ w1.heap.size := K1.out.size
  clear hf hs hT hG hK T0 S0 G0
  go_wp2_with (fail)
  refine (word_rd T1.out S1.out (by omega) HB.out hn2 G1.out (o := o + 1) (two_at HY.out) FY.out hne).mono ?_
  rintro e w2 ⟨rfl, x2, a2, b2, hf, hs, hT, hG, hK⟩
  have F2 := hide hf
  have U2 := hide hs.took
  have G2 := hide hG
  have T2 := hide hT
  have K2 := hide (K1.out.trans hK)
  clear hf hs hT hG hK T1 S1 G1 K1
  go_wp2
  go_end0
  exact ⟨rfl, x1, x2, a2, b2, _, F1.out, F2.out, U1.out, U2.out, T2.out, G2.out, K2.out⟩
end Go.Proofs.Ytlcgpldngooekaa
namespace Go.Proofs.Ytlcgpldngooekaa
open Go.RowKit
set_option linter.unusedVariables false
def RepR (l : List Int) (A : Option Addr) (n c tb a : Nat) (bad : Bool) (g : Nat) (w : World) (e : Ending) (w' : World) : Prop :=
  e = .returned (.tuple #[]) ∧ ∃ (x : RepD) (A1 A2 A3 : Option Addr) (c1 c2 c3 a' : Nat) (bad' : Bool), x.Ok ∧ x.vs.length ≤ n ∧ x.is.length ≤ n ∧ x.bs.length ≤ n ∧
    ((leftV l a' bad' = some [] → leftV l a bad = some x.flat) ∧ (∀ y : RepD, (∀ d ∈ y.bs, IsByte d) → leftV l a bad = some y.flat → leftV l a' bad' = some [])) ∧
    TR l A n c w' tb a' bad' ∧ Blk w' g 65 (x.cells A1 c1 A2 c2 A3 c3) ∧ w'.ownsRow w.heap.size 2 1 (.slice A1 x.vs.length c1) x.vs.length (x.vs.map (Value.int .i64)) ∧ w'.ownsRow w.heap.size 2 1 (.slice A2 x.is.length c2) x.is.length (x.is.map (Value.int .i64)) ∧ w'.ownsRow w.heap.size 5 1 (.slice A3 x.bs.length c3) x.bs.length (x.bs.map (Value.int .u8)) ∧ Keep tb g w w'
set_option maxRecDepth 100000 in
set_option maxHeartbeats 2000000 in
theorem rep_rd {l : List Int} {A : Option Addr} {n c B tb a : Nat} {bad : Bool} {w : World} {g : Nat} (hT : TR l A n c w tb a bad) (hS : Sl w B A n (l.map (Value.int .u8))) (hBt : B ≤ tb) (hBg : B ≤ g) (hb : Bytes l) (hn : n ≤ 1000000000) (hG : Blk w g 65 #[.int .i64 0, .int .i64 0, .int .i64 0, .int .i64 0, .int .i64 0, .int .i64 0, .int .i64 0, .slice none 0 0, .int .u64 0, .int .u64 0, .int .u64 0, .int .u64 0, .slice none 0 0, .slice none 0 0]) (hne : g ≠ tb) :
    Calls Try.prog 49 #[.pointer (some ⟨tb, 0, none⟩), .pointer (some ⟨g, 0, none⟩)] w (RepR l A n c tb a bad g w) := by
  have fz : Fit 0 := ⟨by omega, by omega⟩
  have hn2 : n ≤ 9223372036854775000 := by omega
  have htl := hT.1.lt
  have hgl := hG.lt
  have HB := hide hb
  have g0 : w.cell? ⟨g, 0, none⟩ = some (.int .i64 0) := hG.cell 0
  have C56 := hide (small_rd (x := 0) (hT.alloc (.cells #[.int .i64 0] 3)) (hS.alloc (by omega) (.cells #[.int .i64 0] 3)) (by simp; omega) hb hn2 (Blk.new w 3 #[.int .i64 0]) (o := 0) rfl fz (by omega))
  have S0 := hide (hS.alloc (by omega) (.cells #[.int .i64 0] 3))
  have G0 := hide (hG.alloc (.cells #[.int .i64 0] 3))
  have K0 := hide ((Keep.refl tb g w).alloc (.cells #[.int .i64 0] 3))
  clear hT hS hG hb
  go_enter Try.func49, Try.ntmps49
  go_wp2_with (fail)
  refine C56.out.mono ?_
  rintro e w1 ⟨rfl, x0, a1, b1, hf, hs, hT, hX, hK⟩
  have x1c : w1.cell? ⟨w.heap.size, 0, none⟩ = some (.int .i64 x0) := hX.cell 0
  have qG := hK.blk G0.out hne (by omega)
  have g1 : w1.cell? ⟨g, 0, none⟩ = some (.int .i64 0) := qG.cell 0
  have f1 := qG.frozen 0
  have F0 := hide hf
  have U1 := hide hs.took
  have S1' := hK.sl S0.out hBt (by omega) (by simp; omega)
  have K1' := K0.out.own hK (Nat.le_refl _)
  have T1 := hide (hT.far (p := ⟨g, 0, none⟩) (by simp; omega) (.int .i64 x0))
  have S1 := hide (((Keep.refl tb g w1).set_g 0 (.int .i64 x0)).sl S1' hBt hBg (by have := K1'.size; omega))
  have G1 := hide (show Blk (w1.setCell ⟨g, 0, none⟩ (.int .i64 x0)) g 65 #[.int .i64 x0, .int .i64 0, .int .i64 0, .int .i64 0, .int .i64 0, .int .i64 0, .int .i64 0, .slice none 0 0, .int .u64 0, .int .u64 0, .int .u64 0, .int .u64 0, .slice none 0 0, .slice none 0 0] from qG.set_ 0 _)
  have K1 := hide (K1'.set_g 0 (.int .i64 x0))
  have hw1 : w.heap.size ≤ (w1.setCell ⟨g, 0, none⟩ (.int .i64 x0)).heap.size := K1.out.size
  clear hf hs hT hX hK qG S1' K1' S0 G0 K0 C56
  go_wp2_with (fail)
  generalize hW : w1.setCell ⟨g, 0, none⟩ (.int .i64 x0) = w1s at *
  clear hW x1c g1 f1
  refine (ratio_rd T1.out S1.out hBt hBg HB.out hn G1.out (o := 1) rfl rfl fz fz hne).mono ?_
  rintro e w2 ⟨rfl, x1, x2, a2, b2, s2, f1, f2, h1, h2, hT, hG, hK⟩
  have F1 := hide f1
  have F2 := hide f2
  have V1 := hide h1
  have V2 := hide h2
  have G2 := hide (show Blk w2 g 65 #[.int .i64 x0, .int .i64 x1, .int .i64 x2, .int .i64 0, .int .i64 0, .int .i64 0, .int .i64 0, .slice none 0 0, .int .u64 0, .int .u64 0, .int .u64 0, .int .u64 0, .slice none 0 0, .slice none 0 0] from hG)
  have T2 := hide hT
  have S2 := hide (hK.sl S1.out hBt hBg (by omega))
  have K2 := hide (K1.out.trans hK)
  have hw2 : w.heap.size ≤ w2.heap.size := K2.out.size
  clear hT hG hK f1 f2 h1 h2
  clear T1 S1 G1 K1 hw1 
  go_wp2_with (fail)
  refine (ratio_rd T2.out S2.out hBt hBg HB.out hn G2.out (o := 3) rfl rfl fz fz hne).mono ?_
  rintro e w3 ⟨rfl, x3, x4, a3, b3, s3, f1, f2, h1, h2, hT, hG, hK⟩
  have F3 := hide f1
  have F4 := hide f2
  have V3 := hide h1
  have V4 := hide h2
  have G3 := hide (show Blk w3 g 65 #[.int .i64 x0, .int .i64 x1, .int .i64 x2, .int .i64 x3, .int .i64 x4, .int .i64 0, .int .i64 0, .slice none 0 0, .int .u64 0, .int .u64 0, .int .u64 0, .int .u64 0, .slice none 0 0, .slice none 0 0] from hG)
  have T3 := hide hT
  have S3 := hide (hK.sl S2.out hBt hBg (by omega))
  have K3 := hide (K2.out.trans hK)
  have hw3 : w.heap.size ≤ w3.heap.size := K3.out.size
  clear hT hG hK f1 f2 h1 h2
  clear T2 S2 G2 K2 hw2 
  go_wp2_with (fail)
  refine (ratio_rd T3.out S3.out hBt hBg HB.out hn G3.out (o := 5) rfl rfl fz fz hne).mono ?_
  rintro e w4 ⟨rfl, x5, x6, a4, b4, s4, f1, f2, h1, h2, hT, hG, hK⟩
  have F5 := hide f1
  have F6 := hide f2
  have V5 := hide h1
  have V6 := hide h2
  have G4 := hide (show Blk w4 g 65 #[.int .i64 x0, .int .i64 x1, .int .i64 x2, .int .i64 x3, .int .i64 x4, .int .i64 x5, .int .i64 x6, .slice none 0 0, .int .u64 0, .int .u64 0, .int .u64 0, .int .u64 0, .slice none 0 0, .slice none 0 0] from hG)
  have T4 := hide hT
  have S4 := hide (hK.sl S3.out hBt hBg (by omega))
  have K4 := hide (K3.out.trans hK)
  have hw4 : w.heap.size ≤ w4.heap.size := K4.out.size
  clear hT hG hK f1 f2 h1 h2
  clear T3 S3 G3 K3 hw3 
  go_wp2_with (fail)
  refine (ints_rd T4.out S4.out hBt hBg HB.out hn G4.out (o := 7) rfl (by omega) hne).mono ?_
  rintro e w5 ⟨rfl, A1, c1, vs, a5, b5, hs, hf, hlen, hT, hG, hO, hK⟩
  have Fvs := hide hf
  have U8 := hide hs
  have Lvs := hide hlen
  have D5 := hide (own_mono hO hw4)
  have G5 := hide (show Blk w5 g 65 #[.int .i64 x0, .int .i64 x1, .int .i64 x2, .int .i64 x3, .int .i64 x4, .int .i64 x5, .int .i64 x6, .slice A1 vs.length c1, .int .u64 0, .int .u64 0, .int .u64 0, .int .u64 0, .slice none 0 0, .slice none 0 0] from hG)
  have T5 := hide hT
  have S5 := hide (hK.sl S4.out hBt hBg (by omega))
  have K5 := hide (K4.out.trans hK)
  have hw5 : w.heap.size ≤ w5.heap.size := K5.out.size
  clear hT hG hK hs hf hlen hO
  clear T4 S4 G4 K4 hw4 
  go_wp2_with (fail)
  refine (wide_rd T5.out S5.out hBt hBg HB.out hn G5.out (o := 8) (x := 0) (y := 0) rfl rfl fz fz hne).mono ?_
  rintro e w6 ⟨rfl, x8, x9, a6, b6, s6, f1, f2, h1, h2, hT, hG, hK⟩
  have F8 := hide f1
  have F9 := hide f2
  have V8 := hide h1
  have V9 := hide h2
  have G6 := hide (show Blk w6 g 65 #[.int .i64 x0, .int .i64 x1, .int .i64 x2, .int .i64 x3, .int .i64 x4, .int .i64 x5, .int .i64 x6, .slice A1 vs.length c1, .int .u64 (U64 x8), .int .u64 (U64 x9), .int .u64 0, .int .u64 0, .slice none 0 0, .slice none 0 0] from hG)
  have T6 := hide hT
  have S6 := hide (hK.sl S5.out hBt hBg (by omega))
  have K6 := hide (K5.out.trans hK)
  have hw6 : w.heap.size ≤ w6.heap.size := K6.out.size
  have D6 := hide (hK.owns D5.out (fun q hq => by have := (D5.out.lt q hq).1; omega))
  clear hT hG hK f1 f2 h1 h2
  clear T5 S5 G5 K5 hw5 D5
  go_wp2_with (fail)
  refine (wide_rd T6.out S6.out hBt hBg HB.out hn G6.out (o := 10) (x := 0) (y := 0) rfl rfl fz fz hne).mono ?_
  rintro e w7 ⟨rfl, x10, x11, a7, b7, s7, f1, f2, h1, h2, hT, hG, hK⟩
  have F10 := hide f1
  have F11 := hide f2
  have V10 := hide h1
  have V11 := hide h2
  have G7 := hide (show Blk w7 g 65 #[.int .i64 x0, .int .i64 x1, .int .i64 x2, .int .i64 x3, .int .i64 x4, .int .i64 x5, .int .i64 x6, .slice A1 vs.length c1, .int .u64 (U64 x8), .int .u64 (U64 x9), .int .u64 (U64 x10), .int .u64 (U64 x11), .slice none 0 0, .slice none 0 0] from hG)
  have T7 := hide hT
  have S7 := hide (hK.sl S6.out hBt hBg (by omega))
  have K7 := hide (K6.out.trans hK)
  have hw7 : w.heap.size ≤ w7.heap.size := K7.out.size
  have D7 := hide (hK.owns D6.out (fun q hq => by have := (D6.out.lt q hq).1; omega))
  clear hT hG hK f1 f2 h1 h2
  clear T6 S6 G6 K6 hw6 D6
  go_wp2_with (fail)
  refine (ints_rd T7.out S7.out hBt hBg HB.out hn G7.out (o := 12) rfl (by omega) hne).mono ?_
  rintro e w8 ⟨rfl, A2, c2, is, a8, b8, hs, hf, hlen, hT, hG, hO, hK⟩
  have Fis := hide hf
  have U13 := hide hs
  have Lis := hide hlen
  have E8 := hide (own_mono hO hw7)
  have G8 := hide (show Blk w8 g 65 #[.int .i64 x0, .int .i64 x1, .int .i64 x2, .int .i64 x3, .int .i64 x4, .int .i64 x5, .int .i64 x6, .slice A1 vs.length c1, .int .u64 (U64 x8), .int .u64 (U64 x9), .int .u64 (U64 x10), .int .u64 (U64 x11), .slice A2 is.length c2, .slice none 0 0] from hG)
  have T8 := hide hT
  have S8 := hide (hK.sl S7.out hBt hBg (by omega))
  have K8 := hide (K7.out.trans hK)
  have hw8 : w.heap.size ≤ w8.heap.size := K8.out.size
  have D8 := hide (hK.owns D7.out (fun q hq => by have := (D7.out.lt q hq).1; omega))
  clear hT hG hK hs hf hlen hO
  clear T7 S7 G7 K7 hw7 D7
  go_wp2_with (fail)
  refine (text_rd T8.out S8.out hBt hBg HB.out hn G8.out (o := 13) rfl (by omega) hne).mono ?_
  rintro e w9 ⟨rfl, A3, c3, bs, a9, b9, hs, hf, hlen, hT, hG, hO, hK⟩
  have Fbs := hide hf
  have U14 := hide hs
  have Lbs := hide hlen
  have H9 := hide (own_mono hO hw8)
  have G9 := hide (show Blk w9 g 65 #[.int .i64 x0, .int .i64 x1, .int .i64 x2, .int .i64 x3, .int .i64 x4, .int .i64 x5, .int .i64 x6, .slice A1 vs.length c1, .int .u64 (U64 x8), .int .u64 (U64 x9), .int .u64 (U64 x10), .int .u64 (U64 x11), .slice A2 is.length c2, .slice A3 bs.length c3] from hG)
  have T9 := hide hT
  have S9 := hide (hK.sl S8.out hBt hBg (by omega))
  have K9 := hide (K8.out.trans hK)
  have hw9 : w.heap.size ≤ w9.heap.size := K9.out.size
  have D9 := hide (hK.owns D8.out (fun q hq => by have := (D8.out.lt q hq).1; omega))
  have E9 := hide (hK.owns E8.out (fun q hq => by have := (E8.out.lt q hq).1; omega))
  clear hT hG hK hs hf hlen hO
  clear T8 S8 G8 K8 hw8 D8 E8
  go_wp2
  go_end0
  have hch := chainR U1.out V1.out V2.out V3.out V4.out V5.out V6.out U8.out V8.out V9.out V10.out V11.out U13.out U14.out
  exact ⟨rfl, ⟨x0, x1, x2, x3, x4, x5, x6, vs, x8, x9, x10, x11, is, bs⟩, A1, A2, A3, c1, c2, c3, a9, b9, ⟨⟨F0.out, F1.out, F2.out, F3.out, F4.out, F5.out, F6.out, F8.out, F9.out, F10.out, F11.out⟩, Fvs.out, Fis.out, Fbs.out⟩, Lvs.out, Lis.out, Lbs.out, ⟨fun h => (hch.1 h).2, fun y hy h => hch.2 y.n0 y.n1 y.n2 y.n3 y.n4 y.n5 y.n6 y.vs y.n8 y.n9 y.n10 y.n11 y.is y.bs hy h⟩, T9.out, G9.out, D9.out, E9.out, H9.out, K9.out⟩
end Go.Proofs.Ytlcgpldngooekaa
