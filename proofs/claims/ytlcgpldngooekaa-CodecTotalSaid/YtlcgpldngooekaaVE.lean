/- Lists and texts read from a tape, and configurations: the contracts. | A command read from a tape: the contract. -/
import Derived.Test.YtlcgpldngooekaaTB
import Derived.Test.YtlcgpldngooekaaCmd
namespace Go.Proofs.Ytlcgpldngooekaa
open Go.RowKit
set_option linter.unusedVariables false
set_option maxRecDepth 100000 in
set_option maxHeartbeats 2000000 in
theorem ints_rd {l : List Int} {A : Option Addr} {n c B tb a : Nat} {bad : Bool} {w : World} {A0 : Option Addr} {k0 c0 : Nat} {g o : Nat} {tg : TypeId} {cs : Array Value} (hT : TR l A n c w tb a bad) (hS : Sl w B A n (l.map (Value.int .u8))) (hBt : B ≤ tb) (hBg : B ≤ g) (hb : Bytes l) (hn : n ≤ 1000000000) (hG : Blk w g tg cs) (hx : cs[o]? = some (.slice A0 k0 c0)) (hk0 : k0 ≤ 1000000000) (hne : g ≠ tb) :
    Calls Try.prog 59 #[.pointer (some ⟨tb, 0, none⟩), .pointer (some ⟨g, o, none⟩)] w (ListI l A n c tb a bad g o tg cs w) := by
  have C := hide (listI_rd hT hS hBt hBg hb hn hG hx hk0 hne)
  clear hT hS hG hx hb
  go_enter Try.func59, Try.ntmps59
  go_wp2_with (fail)
  refine C.out.mono ?_
  rintro e w' ⟨rfl, h⟩
  have HH := hide h
  clear h
  go_wp2
  go_end0
  exact ⟨rfl, HH.out⟩
set_option maxRecDepth 100000 in
set_option maxHeartbeats 2000000 in
theorem text_rd {l : List Int} {A : Option Addr} {n c B tb a : Nat} {bad : Bool} {w : World} {A0 : Option Addr} {k0 c0 : Nat} {g o : Nat} {tg : TypeId} {cs : Array Value} (hT : TR l A n c w tb a bad) (hS : Sl w B A n (l.map (Value.int .u8))) (hBt : B ≤ tb) (hBg : B ≤ g) (hb : Bytes l) (hn : n ≤ 1000000000) (hG : Blk w g tg cs) (hx : cs[o]? = some (.slice A0 k0 c0)) (hk0 : k0 ≤ 1000000000) (hne : g ≠ tb) :
    Calls Try.prog 60 #[.pointer (some ⟨tb, 0, none⟩), .pointer (some ⟨g, o, none⟩)] w (ListB l A n c tb a bad g o tg cs w) := by
  have htl := hT.1.lt
  have hgl := hG.lt
  have hBw : B ≤ w.heap.size := by omega
  have C := hide (listB_rd (hT.alloc (.cells #[.pointer (some ⟨tb, 0, none⟩)] 76)) (hS.alloc hBw (.cells #[.pointer (some ⟨tb, 0, none⟩)] 76)) hBt hBg hb hn (hG.alloc (.cells #[.pointer (some ⟨tb, 0, none⟩)] 76)) hx hk0 hne (Blk.new w 76 #[.pointer (some ⟨tb, 0, none⟩)]) (by omega) (by omega))
  have HK := hide ((Keep.refl tb g w).alloc (.cells #[.pointer (some ⟨tb, 0, none⟩)] 76))
  clear hT hS hG hx hb
  go_enter Try.func60, Try.ntmps60
  go_wp2_with (fail)
  refine C.out.mono ?_
  rintro e w' ⟨rfl, A', c', ds, a', bad', h1, h2, h3, h4, h5, h6, h7⟩
  have HH := hide (show ListB l A n c tb a bad g o tg cs w (.returned (.tuple #[])) w' from ⟨rfl, A', c', ds, a', bad', h1, h2, h3, h4, h5, own_mono h6 (by simp), HK.out.trans h7⟩)
  clear h1 h2 h3 h4 h5 h6 h7
  go_wp2
  go_end0
  exact HH.out
def CfgR (l : List Int) (A : Option Addr) (n c tb a : Nat) (bad : Bool) (g : Nat) (v0 v1 v10 v11 v12 v13 v14 v15 v16 : Value) (w : World) (e : Ending) (w' : World) : Prop :=
  e = .returned (.tuple #[]) ∧ ∃ (x2 x3 x4 x5 x6 x7 x8 x9 : Int) (a' : Nat) (bad' : Bool), (Fit x2 ∧ Fit x3 ∧ Fit x4 ∧ Fit x5 ∧ Fit x6 ∧ Fit x7 ∧ Fit x8 ∧ Fit x9) ∧
    (∃ s1 s2 s3 s4 s5 s6 s7, Took Any (leftV l a bad) s1 x2 ∧ Took Any s1 s2 x3 ∧ Took Any s2 s3 x4 ∧ Took Any s3 s4 x5 ∧ Took Any s4 s5 x6 ∧ Took Any s5 s6 x7 ∧ Took Any s6 s7 x8 ∧ Took Any s7 (leftV l a' bad') x9) ∧
    TR l A n c w' tb a' bad' ∧ Blk w' g 45 #[v0, v1, .int .i64 x2, .int .i64 x3, .int .i64 x4, .int .i64 x5, .int .i64 x6, .int .i64 x7, .int .i64 x8, .int .i64 x9, v10, v11, v12, v13, v14, v15, v16] ∧ Keep tb g w w'
set_option maxRecDepth 100000 in
set_option maxHeartbeats 2000000 in
theorem cfg_rd {l : List Int} {A : Option Addr} {n c B tb a : Nat} {bad : Bool} {w : World} {g : Nat} {v0 v1 v10 v11 v12 v13 v14 v15 v16 : Value} {y2 y3 y4 y5 y6 y7 y8 y9 : Int} (hT : TR l A n c w tb a bad) (hS : Sl w B A n (l.map (Value.int .u8))) (hBt : B ≤ tb) (hBg : B ≤ g) (hb : Bytes l) (hn : n ≤ 1000000000) (hG : Blk w g 45 #[v0, v1, .int .i64 y2, .int .i64 y3, .int .i64 y4, .int .i64 y5, .int .i64 y6, .int .i64 y7, .int .i64 y8, .int .i64 y9, v10, v11, v12, v13, v14, v15, v16]) (f2 : Fit y2) (f3 : Fit y3) (f4 : Fit y4) (f5 : Fit y5) (f6 : Fit y6) (f7 : Fit y7) (f8 : Fit y8) (f9 : Fit y9) (hne : g ≠ tb) :
    Calls Try.prog 58 #[.pointer (some ⟨tb, 0, none⟩), .pointer (some ⟨g, 2, none⟩)] w (CfgR l A n c tb a bad g v0 v1 v10 v11 v12 v13 v14 v15 v16 w) := by
  have hn2 : n ≤ 9223372036854775000 := by omega
  have htl := hT.1.lt
  have hgl := hG.lt
  have T0 := hide hT
  have S0 := hide hS
  have G0 := hide hG
  have K0 := hide (Keep.refl tb g w)
  have HB := hide hb
  have hw0 : w.heap.size ≤ w.heap.size := Nat.le_refl _
  clear hT hS hG hb
  have E2 := hide f2
  have E3 := hide f3
  have E4 := hide f4
  have E5 := hide f5
  have E6 := hide f6
  have E7 := hide f7
  have E8 := hide f8
  have E9 := hide f9
  clear f2 f3 f4 f5 f6 f7 f8 f9
  go_enter Try.func58, Try.ntmps58
  go_wp2_with (fail)
  refine (small_rd T0.out S0.out (by omega) HB.out hn2 G0.out (o := 2) rfl E2.out hne).mono ?_
  rintro e w1 ⟨rfl, x2, a1, b1, hf, hs, hT, hG, hK⟩
  have F2 := hide hf
  have U1 := hide hs.took
  have G1 := hide (show Blk w1 g 45 #[v0, v1, .int .i64 x2, .int .i64 y3, .int .i64 y4, .int .i64 y5, .int .i64 y6, .int .i64 y7, .int .i64 y8, .int .i64 y9, v10, v11, v12, v13, v14, v15, v16] from hG)
  have T1 := hide hT
  have S1 := hide (hK.sl S0.out hBt hBg (by omega))
  have K1 := hide (K0.out.trans hK)
  have hw1 : w.heap.size ≤ w1.heap.size := K1.out.size
  clear hf hs hT hG hK
  clear T0 S0 G0 K0
  go_wp2_with (fail)
  refine (small_rd T1.out S1.out (by omega) HB.out hn2 G1.out (o := 3) rfl E3.out hne).mono ?_
  rintro e w2 ⟨rfl, x3, a2, b2, hf, hs, hT, hG, hK⟩
  have F3 := hide hf
  have U2 := hide hs.took
  have G2 := hide (show Blk w2 g 45 #[v0, v1, .int .i64 x2, .int .i64 x3, .int .i64 y4, .int .i64 y5, .int .i64 y6, .int .i64 y7, .int .i64 y8, .int .i64 y9, v10, v11, v12, v13, v14, v15, v16] from hG)
  have T2 := hide hT
  have S2 := hide (hK.sl S1.out hBt hBg (by omega))
  have K2 := hide (K1.out.trans hK)
  have hw2 : w.heap.size ≤ w2.heap.size := K2.out.size
  clear hf hs hT hG hK
  clear T1 S1 G1 K1 hw1
  go_wp2_with (fail)
  refine (int_rd T2.out S2.out HB.out hn2 G2.out (o := 4) rfl E4.out hne).mono ?_
  rintro e w3 ⟨rfl, x4, a3, b3, hf, hs, hT, hG, hK⟩
  have F4 := hide hf
  have U3 := hide hs.took
  have G3 := hide (show Blk w3 g 45 #[v0, v1, .int .i64 x2, .int .i64 x3, .int .i64 x4, .int .i64 y5, .int .i64 y6, .int .i64 y7, .int .i64 y8, .int .i64 y9, v10, v11, v12, v13, v14, v15, v16] from hG)
  have T3 := hide hT
  have S3 := hide (hK.sl S2.out hBt hBg (by omega))
  have K3 := hide (K2.out.trans hK)
  have hw3 : w.heap.size ≤ w3.heap.size := K3.out.size
  clear hf hs hT hG hK
  clear T2 S2 G2 K2 hw2
  go_wp2_with (fail)
  refine (small_rd T3.out S3.out (by omega) HB.out hn2 G3.out (o := 5) rfl E5.out hne).mono ?_
  rintro e w4 ⟨rfl, x5, a4, b4, hf, hs, hT, hG, hK⟩
  have F5 := hide hf
  have U4 := hide hs.took
  have G4 := hide (show Blk w4 g 45 #[v0, v1, .int .i64 x2, .int .i64 x3, .int .i64 x4, .int .i64 x5, .int .i64 y6, .int .i64 y7, .int .i64 y8, .int .i64 y9, v10, v11, v12, v13, v14, v15, v16] from hG)
  have T4 := hide hT
  have S4 := hide (hK.sl S3.out hBt hBg (by omega))
  have K4 := hide (K3.out.trans hK)
  have hw4 : w.heap.size ≤ w4.heap.size := K4.out.size
  clear hf hs hT hG hK
  clear T3 S3 G3 K3 hw3
  go_wp2_with (fail)
  refine (small_rd T4.out S4.out (by omega) HB.out hn2 G4.out (o := 6) rfl E6.out hne).mono ?_
  rintro e w5 ⟨rfl, x6, a5, b5, hf, hs, hT, hG, hK⟩
  have F6 := hide hf
  have U5 := hide hs.took
  have G5 := hide (show Blk w5 g 45 #[v0, v1, .int .i64 x2, .int .i64 x3, .int .i64 x4, .int .i64 x5, .int .i64 x6, .int .i64 y7, .int .i64 y8, .int .i64 y9, v10, v11, v12, v13, v14, v15, v16] from hG)
  have T5 := hide hT
  have S5 := hide (hK.sl S4.out hBt hBg (by omega))
  have K5 := hide (K4.out.trans hK)
  have hw5 : w.heap.size ≤ w5.heap.size := K5.out.size
  clear hf hs hT hG hK
  clear T4 S4 G4 K4 hw4
  go_wp2_with (fail)
  refine (small_rd T5.out S5.out (by omega) HB.out hn2 G5.out (o := 7) rfl E7.out hne).mono ?_
  rintro e w6 ⟨rfl, x7, a6, b6, hf, hs, hT, hG, hK⟩
  have F7 := hide hf
  have U6 := hide hs.took
  have G6 := hide (show Blk w6 g 45 #[v0, v1, .int .i64 x2, .int .i64 x3, .int .i64 x4, .int .i64 x5, .int .i64 x6, .int .i64 x7, .int .i64 y8, .int .i64 y9, v10, v11, v12, v13, v14, v15, v16] from hG)
  have T6 := hide hT
  have S6 := hide (hK.sl S5.out hBt hBg (by omega))
  have K6 := hide (K5.out.trans hK)
  have hw6 : w.heap.size ≤ w6.heap.size := K6.out.size
  clear hf hs hT hG hK
  clear T5 S5 G5 K5 hw5
  go_wp2_with (fail)
  refine (small_rd T6.out S6.out (by omega) HB.out hn2 G6.out (o := 8) rfl E8.out hne).mono ?_
  rintro e w7 ⟨rfl, x8, a7, b7, hf, hs, hT, hG, hK⟩
  have F8 := hide hf
  have U7 := hide hs.took
  have G7 := hide (show Blk w7 g 45 #[v0, v1, .int .i64 x2, .int .i64 x3, .int .i64 x4, .int .i64 x5, .int .i64 x6, .int .i64 x7, .int .i64 x8, .int .i64 y9, v10, v11, v12, v13, v14, v15, v16] from hG)
  have T7 := hide hT
  have S7 := hide (hK.sl S6.out hBt hBg (by omega))
  have K7 := hide (K6.out.trans hK)
  have hw7 : w.heap.size ≤ w7.heap.size := K7.out.size
  clear hf hs hT hG hK
  clear T6 S6 G6 K6 hw6
  go_wp2_with (fail)
  refine (int_rd T7.out S7.out HB.out hn2 G7.out (o := 9) rfl E9.out hne).mono ?_
  rintro e w8 ⟨rfl, x9, a8, b8, hf, hs, hT, hG, hK⟩
  have F9 := hide hf
  have U8 := hide hs.took
  have G8 := hide (show Blk w8 g 45 #[v0, v1, .int .i64 x2, .int .i64 x3, .int .i64 x4, .int .i64 x5, .int .i64 x6, .int .i64 x7, .int .i64 x8, .int .i64 x9, v10, v11, v12, v13, v14, v15, v16] from hG)
  have T8 := hide hT
  have S8 := hide (hK.sl S7.out hBt hBg (by omega))
  have K8 := hide (K7.out.trans hK)
  have hw8 : w.heap.size ≤ w8.heap.size := K8.out.size
  clear hf hs hT hG hK
  clear T7 S7 G7 K7 hw7
  go_wp2
  go_end0
  exact ⟨rfl, x2, x3, x4, x5, x6, x7, x8, x9, a8, b8, ⟨F2.out, F3.out, F4.out, F5.out, F6.out, F7.out, F8.out, F9.out⟩, ⟨_, _, _, _, _, _, _, U1.out, U2.out, U3.out, U4.out, U5.out, U6.out, U7.out, U8.out⟩, T8.out, G8.out, K8.out⟩
end Go.Proofs.Ytlcgpldngooekaa
namespace Go.Proofs.Ytlcgpldngooekaa
open Go.RowKit
set_option linter.unusedVariables false
def CmdR (l : List Int) (A : Option Addr) (n c tb a : Nat) (bad : Bool) (g : Nat) (w : World) (e : Ending) (w' : World) : Prop :=
  e = .returned (.tuple #[]) ∧ ∃ (x : CmdD) (A1 A2 : Option Addr) (c1 c2 a' : Nat) (bad' : Bool), x.Ok ∧ x.ds.length ≤ n ∧ x.bs.length ≤ n ∧
    ((leftV l a' bad' = some [] → leftV l a bad = some x.flat) ∧ (∀ y : CmdD, (∀ d ∈ y.bs, IsByte d) → leftV l a bad = some y.flat → leftV l a' bad' = some [])) ∧
    TR l A n c w' tb a' bad' ∧ Blk w' g 45 (x.cells A1 c1 A2 c2) ∧ w'.ownsRow w.heap.size 2 1 (.slice A1 x.ds.length c1) x.ds.length (x.ds.map (Value.int .i64)) ∧ w'.ownsRow w.heap.size 5 1 (.slice A2 x.bs.length c2) x.bs.length (x.bs.map (Value.int .u8)) ∧ Keep tb g w w'
set_option maxRecDepth 100000 in
set_option maxHeartbeats 2000000 in
theorem cmd_rd {l : List Int} {A : Option Addr} {n c B tb a : Nat} {bad : Bool} {w : World} {g : Nat} (hT : TR l A n c w tb a bad) (hS : Sl w B A n (l.map (Value.int .u8))) (hBt : B ≤ tb) (hBg : B ≤ g) (hb : Bytes l) (hn : n ≤ 1000000000) (hG : Blk w g 45 #[.int .i64 0, .int .i64 0, .int .i64 0, .int .i64 0, .int .i64 0, .int .i64 0, .int .i64 0, .int .i64 0, .int .i64 0, .int .i64 0, .int .i64 0, .int .i64 0, .slice none 0 0, .int .i64 0, .int .i64 0, .int .i64 0, .slice none 0 0]) (hne : g ≠ tb) :
    Calls Try.prog 42 #[.pointer (some ⟨tb, 0, none⟩), .pointer (some ⟨g, 0, none⟩)] w (CmdR l A n c tb a bad g w) := by
  have fz : Fit 0 := ⟨by omega, by omega⟩
  have hn2 : n ≤ 9223372036854775000 := by omega
  have htl := hT.1.lt
  have hgl := hG.lt
  have T0 := hide hT
  have S0 := hide hS
  have G0 := hide hG
  have K0 := hide (Keep.refl tb g w)
  have HB := hide hb
  have hw0 : w.heap.size ≤ w.heap.size := Nat.le_refl _
  clear hT hS hG hb
  go_enter Try.func42, Try.ntmps42
  go_wp2_with (fail)
  refine (small_rd T0.out S0.out (by omega) HB.out hn2 G0.out (o := 0) rfl fz hne).mono ?_
  rintro e w1 ⟨rfl, x0, a1, b1, hf, hs, hT, hG, hK⟩
  have F0 := hide hf
  have U1 := hide hs.took
  have G1 := hide (show Blk w1 g 45 #[.int .i64 x0, .int .i64 0, .int .i64 0, .int .i64 0, .int .i64 0, .int .i64 0, .int .i64 0, .int .i64 0, .int .i64 0, .int .i64 0, .int .i64 0, .int .i64 0, .slice none 0 0, .int .i64 0, .int .i64 0, .int .i64 0, .slice none 0 0] from hG)
  have T1 := hide hT
  have S1 := hide (hK.sl S0.out hBt hBg (by omega))
  have K1 := hide (K0.out.trans hK)
  have hw1 : w.heap.size ≤ w1.heap.size := K1.out.size
  clear hf hs hT hG hK
  clear T0 S0 G0 K0
  go_wp2_with (fail)
  refine (int_rd T1.out S1.out HB.out hn2 G1.out (o := 1) rfl fz hne).mono ?_
  rintro e w2 ⟨rfl, x1, a2, b2, hf, hs, hT, hG, hK⟩
  have F1 := hide hf
  have U2 := hide hs.took
  have G2 := hide (show Blk w2 g 45 #[.int .i64 x0, .int .i64 x1, .int .i64 0, .int .i64 0, .int .i64 0, .int .i64 0, .int .i64 0, .int .i64 0, .int .i64 0, .int .i64 0, .int .i64 0, .int .i64 0, .slice none 0 0, .int .i64 0, .int .i64 0, .int .i64 0, .slice none 0 0] from hG)
  have T2 := hide hT
  have S2 := hide (hK.sl S1.out hBt hBg (by omega))
  have K2 := hide (K1.out.trans hK)
  have hw2 : w.heap.size ≤ w2.heap.size := K2.out.size
  clear hf hs hT hG hK
  clear T1 S1 G1 K1 hw1
  go_wp2_with (fail)
  refine (cfg_rd T2.out S2.out hBt hBg HB.out hn G2.out fz fz fz fz fz fz fz fz hne).mono ?_
  rintro e w3 ⟨rfl, x2, x3, x4, x5, x6, x7, x8, x9, a3, b3, ⟨f2, f3, f4, f5, f6, f7, f8, f9⟩, ⟨s1, s2, s3, s4, s5, s6, s7, h1, h2, h3, h4, h5, h6, h7, h8⟩, hT, hG, hK⟩
  have F2 := hide f2
  have V1 := hide h1
  have F3 := hide f3
  have V2 := hide h2
  have F4 := hide f4
  have V3 := hide h3
  have F5 := hide f5
  have V4 := hide h4
  have F6 := hide f6
  have V5 := hide h5
  have F7 := hide f7
  have V6 := hide h6
  have F8 := hide f8
  have V7 := hide h7
  have F9 := hide f9
  have V8 := hide h8
  have G3 := hide (show Blk w3 g 45 #[.int .i64 x0, .int .i64 x1, .int .i64 x2, .int .i64 x3, .int .i64 x4, .int .i64 x5, .int .i64 x6, .int .i64 x7, .int .i64 x8, .int .i64 x9, .int .i64 0, .int .i64 0, .slice none 0 0, .int .i64 0, .int .i64 0, .int .i64 0, .slice none 0 0] from hG)
  have T3 := hide hT
  have S3 := hide (hK.sl S2.out hBt hBg (by omega))
  have K3 := hide (K2.out.trans hK)
  have hw3 : w.heap.size ≤ w3.heap.size := K3.out.size
  clear hT hG hK f2 h1 f3 h2 f4 h3 f5 h4 f6 h5 f7 h6 f8 h7 f9 h8
  clear T2 S2 G2 K2 hw2
  go_wp2_with (fail)
  refine (int_rd T3.out S3.out HB.out hn2 G3.out (o := 10) rfl fz hne).mono ?_
  rintro e w4 ⟨rfl, x10, a4, b4, hf, hs, hT, hG, hK⟩
  have F10 := hide hf
  have U4 := hide hs.took
  have G4 := hide (show Blk w4 g 45 #[.int .i64 x0, .int .i64 x1, .int .i64 x2, .int .i64 x3, .int .i64 x4, .int .i64 x5, .int .i64 x6, .int .i64 x7, .int .i64 x8, .int .i64 x9, .int .i64 x10, .int .i64 0, .slice none 0 0, .int .i64 0, .int .i64 0, .int .i64 0, .slice none 0 0] from hG)
  have T4 := hide hT
  have S4 := hide (hK.sl S3.out hBt hBg (by omega))
  have K4 := hide (K3.out.trans hK)
  have hw4 : w.heap.size ≤ w4.heap.size := K4.out.size
  clear hf hs hT hG hK
  clear T3 S3 G3 K3 hw3
  go_wp2_with (fail)
  refine (int_rd T4.out S4.out HB.out hn2 G4.out (o := 11) rfl fz hne).mono ?_
  rintro e w5 ⟨rfl, x11, a5, b5, hf, hs, hT, hG, hK⟩
  have F11 := hide hf
  have U5 := hide hs.took
  have G5 := hide (show Blk w5 g 45 #[.int .i64 x0, .int .i64 x1, .int .i64 x2, .int .i64 x3, .int .i64 x4, .int .i64 x5, .int .i64 x6, .int .i64 x7, .int .i64 x8, .int .i64 x9, .int .i64 x10, .int .i64 x11, .slice none 0 0, .int .i64 0, .int .i64 0, .int .i64 0, .slice none 0 0] from hG)
  have T5 := hide hT
  have S5 := hide (hK.sl S4.out hBt hBg (by omega))
  have K5 := hide (K4.out.trans hK)
  have hw5 : w.heap.size ≤ w5.heap.size := K5.out.size
  clear hf hs hT hG hK
  clear T4 S4 G4 K4 hw4
  go_wp2_with (fail)
  refine (ints_rd T5.out S5.out hBt hBg HB.out hn G5.out (o := 12) rfl (by omega) hne).mono ?_
  rintro e w6 ⟨rfl, A1, c1, ds, a6, b6, hs, hf, hlen, hT, hG, hO, hK⟩
  have Fds := hide hf
  have U6 := hide hs
  have Lds := hide hlen
  have G6 := hide (show Blk w6 g 45 #[.int .i64 x0, .int .i64 x1, .int .i64 x2, .int .i64 x3, .int .i64 x4, .int .i64 x5, .int .i64 x6, .int .i64 x7, .int .i64 x8, .int .i64 x9, .int .i64 x10, .int .i64 x11, .slice A1 ds.length c1, .int .i64 0, .int .i64 0, .int .i64 0, .slice none 0 0] from hG)
  have D6 := hide (own_mono hO hw5)
  have T6 := hide hT
  have S6 := hide (hK.sl S5.out hBt hBg (by omega))
  have K6 := hide (K5.out.trans hK)
  have hw6 : w.heap.size ≤ w6.heap.size := K6.out.size
  clear hs hf hlen hT hG hO hK
  clear T5 S5 G5 K5 hw5
  go_wp2_with (fail)
  refine (small_rd T6.out S6.out (by omega) HB.out hn2 G6.out (o := 13) rfl fz hne).mono ?_
  rintro e w7 ⟨rfl, x13, a7, b7, hf, hs, hT, hG, hK⟩
  have F13 := hide hf
  have U7 := hide hs.took
  have G7 := hide (show Blk w7 g 45 #[.int .i64 x0, .int .i64 x1, .int .i64 x2, .int .i64 x3, .int .i64 x4, .int .i64 x5, .int .i64 x6, .int .i64 x7, .int .i64 x8, .int .i64 x9, .int .i64 x10, .int .i64 x11, .slice A1 ds.length c1, .int .i64 x13, .int .i64 0, .int .i64 0, .slice none 0 0] from hG)
  have T7 := hide hT
  have S7 := hide (hK.sl S6.out hBt hBg (by omega))
  have K7 := hide (K6.out.trans hK)
  have hw7 : w.heap.size ≤ w7.heap.size := K7.out.size
  have D7 := hide (hK.owns D6.out (fun q hq => by have := (D6.out.lt q hq).1; omega))
  clear hf hs hT hG hK
  clear T6 S6 G6 K6 hw6 D6
  go_wp2_with (fail)
  refine (int_rd T7.out S7.out HB.out hn2 G7.out (o := 14) rfl fz hne).mono ?_
  rintro e w8 ⟨rfl, x14, a8, b8, hf, hs, hT, hG, hK⟩
  have F14 := hide hf
  have U8 := hide hs.took
  have G8 := hide (show Blk w8 g 45 #[.int .i64 x0, .int .i64 x1, .int .i64 x2, .int .i64 x3, .int .i64 x4, .int .i64 x5, .int .i64 x6, .int .i64 x7, .int .i64 x8, .int .i64 x9, .int .i64 x10, .int .i64 x11, .slice A1 ds.length c1, .int .i64 x13, .int .i64 x14, .int .i64 0, .slice none 0 0] from hG)
  have T8 := hide hT
  have S8 := hide (hK.sl S7.out hBt hBg (by omega))
  have K8 := hide (K7.out.trans hK)
  have hw8 : w.heap.size ≤ w8.heap.size := K8.out.size
  have D8 := hide (hK.owns D7.out (fun q hq => by have := (D7.out.lt q hq).1; omega))
  clear hf hs hT hG hK
  clear T7 S7 G7 K7 hw7 D7
  go_wp2_with (fail)
  refine (int_rd T8.out S8.out HB.out hn2 G8.out (o := 15) rfl fz hne).mono ?_
  rintro e w9 ⟨rfl, x15, a9, b9, hf, hs, hT, hG, hK⟩
  have F15 := hide hf
  have U9 := hide hs.took
  have G9 := hide (show Blk w9 g 45 #[.int .i64 x0, .int .i64 x1, .int .i64 x2, .int .i64 x3, .int .i64 x4, .int .i64 x5, .int .i64 x6, .int .i64 x7, .int .i64 x8, .int .i64 x9, .int .i64 x10, .int .i64 x11, .slice A1 ds.length c1, .int .i64 x13, .int .i64 x14, .int .i64 x15, .slice none 0 0] from hG)
  have T9 := hide hT
  have S9 := hide (hK.sl S8.out hBt hBg (by omega))
  have K9 := hide (K8.out.trans hK)
  have hw9 : w.heap.size ≤ w9.heap.size := K9.out.size
  have D9 := hide (hK.owns D8.out (fun q hq => by have := (D8.out.lt q hq).1; omega))
  clear hf hs hT hG hK
  clear T8 S8 G8 K8 hw8 D8
  go_wp2_with (fail)
  refine (text_rd T9.out S9.out hBt hBg HB.out hn G9.out (o := 16) rfl (by omega) hne).mono ?_
  rintro e w10 ⟨rfl, A2, c2, bs, a10, b10, hs, hf, hlen, hT, hG, hO, hK⟩
  have Fbs := hide hf
  have U10 := hide hs
  have Lbs := hide hlen
  have G10 := hide (show Blk w10 g 45 #[.int .i64 x0, .int .i64 x1, .int .i64 x2, .int .i64 x3, .int .i64 x4, .int .i64 x5, .int .i64 x6, .int .i64 x7, .int .i64 x8, .int .i64 x9, .int .i64 x10, .int .i64 x11, .slice A1 ds.length c1, .int .i64 x13, .int .i64 x14, .int .i64 x15, .slice A2 bs.length c2] from hG)
  have E10 := hide (own_mono hO hw9)
  have T10 := hide hT
  have S10 := hide (hK.sl S9.out hBt hBg (by omega))
  have K10 := hide (K9.out.trans hK)
  have hw10 : w.heap.size ≤ w10.heap.size := K10.out.size
  have D10 := hide (hK.owns D9.out (fun q hq => by have := (D9.out.lt q hq).1; omega))
  clear hs hf hlen hT hG hO hK
  clear T9 S9 G9 K9 hw9 D9
  go_wp2
  go_end0
  have hch := chainC U1.out U2.out V1.out V2.out V3.out V4.out V5.out V6.out V7.out V8.out U4.out U5.out U6.out U7.out U8.out U9.out U10.out
  exact ⟨rfl, ⟨x0, x1, x2, x3, x4, x5, x6, x7, x8, x9, x10, x11, ds, x13, x14, x15, bs⟩, A1, A2, c1, c2, a10, b10, ⟨⟨F0.out, F1.out, F2.out, F3.out, F4.out, F5.out, F6.out, F7.out, F8.out, F9.out, F10.out, F11.out, F13.out, F14.out, F15.out⟩, Fds.out, Fbs.out⟩, Lds.out, Lbs.out, ⟨fun h => (hch.1 h).2, fun y hy h => hch.2 y.n0 y.n1 y.n2 y.n3 y.n4 y.n5 y.n6 y.n7 y.n8 y.n9 y.n10 y.n11 y.ds y.n13 y.n14 y.n15 y.bs hy h⟩, T10.out, G10.out, D10.out, E10.out, K10.out⟩
end Go.Proofs.Ytlcgpldngooekaa
