/- A command written to a tape: the contracts. -/
import Derived.Test.YtlcgpldngooekaaWB
import Derived.Test.YtlcgpldngooekaaRE
namespace Go.Proofs.Ytlcgpldngooekaa
open Go.RowKit
set_option linter.unusedVariables false
set_option maxRecDepth 100000
theorem ints_wr {base tb c g o B kd : Nat} {xs ds : List Int} {A Ad : Option Addr} {w : World} {tg : TypeId} {cs : Array Value} (hT : TW base tb xs w A c) (hG : Blk w g tg cs) (hx : cs[o]? = some (.slice Ad ds.length kd)) (hS : Sl w B Ad ds.length (ds.map (Value.int .i64))) (hd : ∀ d ∈ ds, Fit d) (hlen : xs.length ≤ 10000000) (hdl : ds.length ≤ 1000000) (hgt : g ≠ tb) (hgb : g < base) (hB : B ≤ tb) :
    Calls Try.prog 59 #[.pointer (some ⟨tb, 0, none⟩), .pointer (some ⟨g, o, none⟩)] w (IntW base tb xs A c (writeL ((ds.length : Int) :: ds)) w) := by
  have C := hide (listI_wr hT hG hx hS hd hlen hdl hgt hgb hB)
  clear hT hG hx hS hd
  go_enter Try.func59, Try.ntmps59
  go_wp2_with (fail)
  refine C.out.mono ?_
  rintro e w' ⟨rfl, h⟩
  have HH := hide h
  clear h
  go_wp2
  go_end0
  exact ⟨rfl, HH.out⟩
theorem text_wr {base tb c g o B kd : Nat} {xs ds : List Int} {A Ad : Option Addr} {w : World} {tg : TypeId} {cs : Array Value} (hT : TW base tb xs w A c) (hG : Blk w g tg cs) (hx : cs[o]? = some (.slice Ad ds.length kd)) (hS : Sl w B Ad ds.length (ds.map (Value.int .u8))) (hd : ∀ d ∈ ds, 0 ≤ d ∧ d ≤ 255) (hlen : xs.length ≤ 10000000) (hdl : ds.length ≤ 1000000) (hgt : g ≠ tb) (hgb : g < base) (hB : B ≤ tb) :
    Calls Try.prog 60 #[.pointer (some ⟨tb, 0, none⟩), .pointer (some ⟨g, o, none⟩)] w (IntW base tb xs A c (writeL ((ds.length : Int) :: ds)) w) := by
  have htl := hT.1.lt
  have hqo : ∀ q, (Value.slice A xs.length c).ownBlock = some q → base ≤ q ∧ q < w.heap.size := fun q hq => hT.2.1.lt q hq
  have C := hide (listB_wr (tc := w.heap.size) (hT.alloc (.cells #[.pointer (some ⟨tb, 0, none⟩)] 76)) (hG.alloc (.cells #[.pointer (some ⟨tb, 0, none⟩)] 76)) hx (hS.alloc (by omega) (.cells #[.pointer (some ⟨tb, 0, none⟩)] 76)) hd hlen hdl hgt hgb hB (Blk.new w 76 #[.pointer (some ⟨tb, 0, none⟩)]) (by omega) (fun q hq => by have := hqo q hq; omega))
  have HK := hide ((MovT.refl tb w (.slice A xs.length c)).alloc (.cells #[.pointer (some ⟨tb, 0, none⟩)] 76))
  clear hT hG hx hS hd
  go_enter Try.func60, Try.ntmps60
  go_wp2_with (fail)
  refine C.out.mono ?_
  rintro e w' ⟨rfl, A', c', h1, h2⟩
  have HH := hide (show IntW base tb xs A c (writeL ((ds.length : Int) :: ds)) w (.returned (.tuple #[])) w' from ⟨rfl, A', c', h1, HK.out.trans h2⟩)
  clear h1 h2
  go_wp2
  go_end0
  exact HH.out
set_option maxRecDepth 100000 in
set_option maxHeartbeats 2000000 in
theorem cfg_wr {base tb c g B : Nat} {xs : List Int} {A : Option Addr} {w : World} {v0 v1 v10 v11 v12 v13 v14 v15 v16 : Value} {y2 y3 y4 y5 y6 y7 y8 y9 : Int} (hT : TW base tb xs w A c) (hG : Blk w g 45 #[v0, v1, .int .i64 y2, .int .i64 y3, .int .i64 y4, .int .i64 y5, .int .i64 y6, .int .i64 y7, .int .i64 y8, .int .i64 y9, v10, v11, v12, v13, v14, v15, v16]) (f2 : Fit y2) (f3 : Fit y3) (f4 : Fit y4) (f5 : Fit y5) (f6 : Fit y6) (f7 : Fit y7) (f8 : Fit y8) (f9 : Fit y9) (hlen : xs.length ≤ 1000000) (hgt : g ≠ tb) (hgb : g < base) :
    Calls Try.prog 58 #[.pointer (some ⟨tb, 0, none⟩), .pointer (some ⟨g, 2, none⟩)] w (IntW base tb xs A c (writeL [y2, y3, y4, y5, y6, y7, y8, y9]) w) := by
  have htb := hT.2.2.1
  have T0 := hide hT
  have G0 := hide hG
  have K0 := hide (MovT.refl tb w (.slice A xs.length c))
  have F2 := hide f2
  have F3 := hide f3
  have F4 := hide f4
  have F5 := hide f5
  have F6 := hide f6
  have F7 := hide f7
  have F8 := hide f8
  have F9 := hide f9
  clear hT hG f2 f3 f4 f5 f6 f7 f8 f9
  go_enter Try.func58, Try.ntmps58
  go_wp2_with (fail)
  refine (small_wr T0.out G0.out (o := 2) rfl F2.out (by omega) hgt hgb).mono ?_
  rintro e w1 ⟨rfl, B1, d1, hT, hm⟩
  have hq0 : ∀ q, (Value.slice A xs.length c).ownBlock = some q → base ≤ q := fun q hq => (T0.out.2.1.lt q hq).1
  have G1 := hide (hm.blk G0.out hgt (fun q hq => by have := hq0 q hq; omega))
  have hl1 : (xs ++ codeN y2).length ≤ xs.length + 10 := by have := (codeN_len y2).1; simp only [List.length_append]; omega
  generalize hY : xs ++ codeN y2 = ys1 at *
  have HY1 := hide hY
  have T1 := hide hT
  have K1 := hide (K0.out.trans hm)
  clear hT hm hY T0 G0 K0 hq0 
  go_wp2_with (fail)
  refine (small_wr T1.out G1.out (o := 3) rfl F3.out (by omega) hgt hgb).mono ?_
  rintro e w2 ⟨rfl, B2, d2, hT, hm⟩
  have hq1 : ∀ q, (Value.slice B1 ys1.length d1).ownBlock = some q → base ≤ q := fun q hq => (T1.out.2.1.lt q hq).1
  have G2 := hide (hm.blk G1.out hgt (fun q hq => by have := hq1 q hq; omega))
  have hl2 : (ys1 ++ codeN y3).length ≤ ys1.length + 10 := by have := (codeN_len y3).1; simp only [List.length_append]; omega
  generalize hY : ys1 ++ codeN y3 = ys2 at *
  have HY2 := hide hY
  have T2 := hide hT
  have K2 := hide (K1.out.trans hm)
  clear hT hm hY T1 G1 K1 hq1 
  go_wp2_with (fail)
  refine (int_wr T2.out G2.out (o := 4) rfl F4.out (by omega)).mono ?_
  rintro e w3 ⟨rfl, B3, d3, hT, hm⟩
  have hq2 : ∀ q, (Value.slice B2 ys2.length d2).ownBlock = some q → base ≤ q := fun q hq => (T2.out.2.1.lt q hq).1
  have G3 := hide (hm.blk G2.out hgt (fun q hq => by have := hq2 q hq; omega))
  have hl3 : (ys2 ++ codeN y4).length ≤ ys2.length + 10 := by have := (codeN_len y4).1; simp only [List.length_append]; omega
  generalize hY : ys2 ++ codeN y4 = ys3 at *
  have HY3 := hide hY
  have T3 := hide hT
  have K3 := hide (K2.out.trans hm)
  clear hT hm hY T2 G2 K2 hq2 
  go_wp2_with (fail)
  refine (small_wr T3.out G3.out (o := 5) rfl F5.out (by omega) hgt hgb).mono ?_
  rintro e w4 ⟨rfl, B4, d4, hT, hm⟩
  have hq3 : ∀ q, (Value.slice B3 ys3.length d3).ownBlock = some q → base ≤ q := fun q hq => (T3.out.2.1.lt q hq).1
  have G4 := hide (hm.blk G3.out hgt (fun q hq => by have := hq3 q hq; omega))
  have hl4 : (ys3 ++ codeN y5).length ≤ ys3.length + 10 := by have := (codeN_len y5).1; simp only [List.length_append]; omega
  generalize hY : ys3 ++ codeN y5 = ys4 at *
  have HY4 := hide hY
  have T4 := hide hT
  have K4 := hide (K3.out.trans hm)
  clear hT hm hY T3 G3 K3 hq3 
  go_wp2_with (fail)
  refine (small_wr T4.out G4.out (o := 6) rfl F6.out (by omega) hgt hgb).mono ?_
  rintro e w5 ⟨rfl, B5, d5, hT, hm⟩
  have hq4 : ∀ q, (Value.slice B4 ys4.length d4).ownBlock = some q → base ≤ q := fun q hq => (T4.out.2.1.lt q hq).1
  have G5 := hide (hm.blk G4.out hgt (fun q hq => by have := hq4 q hq; omega))
  have hl5 : (ys4 ++ codeN y6).length ≤ ys4.length + 10 := by have := (codeN_len y6).1; simp only [List.length_append]; omega
  generalize hY : ys4 ++ codeN y6 = ys5 at *
  have HY5 := hide hY
  have T5 := hide hT
  have K5 := hide (K4.out.trans hm)
  clear hT hm hY T4 G4 K4 hq4 
  go_wp2_with (fail)
  refine (small_wr T5.out G5.out (o := 7) rfl F7.out (by omega) hgt hgb).mono ?_
  rintro e w6 ⟨rfl, B6, d6, hT, hm⟩
  have hq5 : ∀ q, (Value.slice B5 ys5.length d5).ownBlock = some q → base ≤ q := fun q hq => (T5.out.2.1.lt q hq).1
  have G6 := hide (hm.blk G5.out hgt (fun q hq => by have := hq5 q hq; omega))
  have hl6 : (ys5 ++ codeN y7).length ≤ ys5.length + 10 := by have := (codeN_len y7).1; simp only [List.length_append]; omega
  generalize hY : ys5 ++ codeN y7 = ys6 at *
  have HY6 := hide hY
  have T6 := hide hT
  have K6 := hide (K5.out.trans hm)
  clear hT hm hY T5 G5 K5 hq5 
  go_wp2_with (fail)
  refine (small_wr T6.out G6.out (o := 8) rfl F8.out (by omega) hgt hgb).mono ?_
  rintro e w7 ⟨rfl, B7, d7, hT, hm⟩
  have hq6 : ∀ q, (Value.slice B6 ys6.length d6).ownBlock = some q → base ≤ q := fun q hq => (T6.out.2.1.lt q hq).1
  have G7 := hide (hm.blk G6.out hgt (fun q hq => by have := hq6 q hq; omega))
  have hl7 : (ys6 ++ codeN y8).length ≤ ys6.length + 10 := by have := (codeN_len y8).1; simp only [List.length_append]; omega
  generalize hY : ys6 ++ codeN y8 = ys7 at *
  have HY7 := hide hY
  have T7 := hide hT
  have K7 := hide (K6.out.trans hm)
  clear hT hm hY T6 G6 K6 hq6 
  go_wp2_with (fail)
  refine (int_wr T7.out G7.out (o := 9) rfl F9.out (by omega)).mono ?_
  rintro e w8 ⟨rfl, B8, d8, hT, hm⟩
  have hq7 : ∀ q, (Value.slice B7 ys7.length d7).ownBlock = some q → base ≤ q := fun q hq => (T7.out.2.1.lt q hq).1
  have G8 := hide (hm.blk G7.out hgt (fun q hq => by have := hq7 q hq; omega))
  have hl8 : (ys7 ++ codeN y9).length ≤ ys7.length + 10 := by have := (codeN_len y9).1; simp only [List.length_append]; omega
  generalize hY : ys7 ++ codeN y9 = ys8 at *
  have HY8 := hide hY
  have T8 := hide hT
  have K8 := hide (K7.out.trans hm)
  clear hT hm hY T7 G7 K7 hq7 
  go_wp2
  go_end0
  have hfin : xs ++ writeL [y2, y3, y4, y5, y6, y7, y8, y9] = ys8 := by rw [← HY8.out, ← HY7.out, ← HY6.out, ← HY5.out, ← HY4.out, ← HY3.out, ← HY2.out, ← HY1.out]; simp [writeL]
  exact ⟨rfl, B8, d8, by rw [hfin]; exact T8.out, by rw [hfin]; exact K8.out⟩
set_option maxRecDepth 100000 in
set_option maxHeartbeats 2000000 in
theorem cmd_wr {base tb c g B c1 c2 : Nat} {xs : List Int} {A A1 A2 : Option Addr} {w : World} {x : CmdD} (hT : TW base tb xs w A c) (hG : Blk w g 45 #[.int .i64 x.n0, .int .i64 x.n1, .int .i64 x.n2, .int .i64 x.n3, .int .i64 x.n4, .int .i64 x.n5, .int .i64 x.n6, .int .i64 x.n7, .int .i64 x.n8, .int .i64 x.n9, .int .i64 x.n10, .int .i64 x.n11, .slice A1 x.ds.length c1, .int .i64 x.n13, .int .i64 x.n14, .int .i64 x.n15, .slice A2 x.bs.length c2]) (hD : Sl w B A1 x.ds.length (x.ds.map (Value.int .i64))) (hE : Sl w B A2 x.bs.length (x.bs.map (Value.int .u8))) (hok : x.Ok) (hlen : xs.length ≤ 1000) (h1 : x.ds.length ≤ 2000) (h2 : x.bs.length ≤ 2000) (hgt : g ≠ tb) (hgb : g < base) (hB : B ≤ tb) :
    Calls Try.prog 42 #[.pointer (some ⟨tb, 0, none⟩), .pointer (some ⟨g, 0, none⟩)] w (IntW base tb xs A c (writeL x.flat) w) := by
  obtain ⟨⟨f0, f1, f2, f3, f4, f5, f6, f7, f8, f9, f10, f11, f13, f14, f15⟩, hfd, hfb⟩ := hok
  have htb := hT.2.2.1
  have T0 := hide hT
  have G0 := hide hG
  have D0 := hide hD
  have E0 := hide hE
  have K0 := hide (MovT.refl tb w (.slice A xs.length c))
  have F0 := hide f0
  have F1 := hide f1
  have F2 := hide f2
  have F3 := hide f3
  have F4 := hide f4
  have F5 := hide f5
  have F6 := hide f6
  have F7 := hide f7
  have F8 := hide f8
  have F9 := hide f9
  have F10 := hide f10
  have F11 := hide f11
  have F13 := hide f13
  have F14 := hide f14
  have F15 := hide f15
  have FD := hide hfd
  have FB := hide hfb
  clear hT hG hD hE hfd hfb f0 f1 f2 f3 f4 f5 f6 f7 f8 f9 f10 f11 f13 f14 f15
  go_enter Try.func42, Try.ntmps42
  go_wp2_with (fail)
  refine (small_wr T0.out G0.out (o := 0) rfl F0.out (by omega) hgt hgb).mono ?_
  rintro e w1 ⟨rfl, B1, d1, hT, hm⟩
  have hq0 : ∀ q, (Value.slice A xs.length c).ownBlock = some q → base ≤ q := fun q hq => (T0.out.2.1.lt q hq).1
  have G1 := hide (hm.blk G0.out hgt (fun q hq => by have := hq0 q hq; omega))
  have D1 := hide (hm.sl D0.out hB (fun q hq => by have := hq0 q hq; omega) (by have := T0.out.2.2.2; omega))
  have E1 := hide (hm.sl E0.out hB (fun q hq => by have := hq0 q hq; omega) (by have := T0.out.2.2.2; omega))
  have hl1 : (xs ++ codeN x.n0).length ≤ xs.length + 10 := by have := (codeN_len x.n0).1; simp only [List.length_append]; omega
  generalize hY : xs ++ codeN x.n0 = ys1 at *
  have HY1 := hide hY
  have T1 := hide hT
  have K1 := hide (K0.out.trans hm)
  clear hT hm hY T0 G0 K0 hq0 D0 E0
  go_wp2_with (fail)
  refine (int_wr T1.out G1.out (o := 1) rfl F1.out (by omega)).mono ?_
  rintro e w2 ⟨rfl, B2, d2, hT, hm⟩
  have hq1 : ∀ q, (Value.slice B1 ys1.length d1).ownBlock = some q → base ≤ q := fun q hq => (T1.out.2.1.lt q hq).1
  have G2 := hide (hm.blk G1.out hgt (fun q hq => by have := hq1 q hq; omega))
  have D2 := hide (hm.sl D1.out hB (fun q hq => by have := hq1 q hq; omega) (by have := T1.out.2.2.2; omega))
  have E2 := hide (hm.sl E1.out hB (fun q hq => by have := hq1 q hq; omega) (by have := T1.out.2.2.2; omega))
  have hl2 : (ys1 ++ codeN x.n1).length ≤ ys1.length + 10 := by have := (codeN_len x.n1).1; simp only [List.length_append]; omega
  generalize hY : ys1 ++ codeN x.n1 = ys2 at *
  have HY2 := hide hY
  have T2 := hide hT
  have K2 := hide (K1.out.trans hm)
  clear hT hm hY T1 G1 K1 hq1 D1 E1
  go_wp2_with (fail)
  refine (cfg_wr (B := B) T2.out G2.out F2.out F3.out F4.out F5.out F6.out F7.out F8.out F9.out (by omega) hgt hgb).mono ?_
  rintro e w3 ⟨rfl, B3, d3, hT, hm⟩
  have hq2 : ∀ q, (Value.slice B2 ys2.length d2).ownBlock = some q → base ≤ q := fun q hq => (T2.out.2.1.lt q hq).1
  have G3 := hide (hm.blk G2.out hgt (fun q hq => by have := hq2 q hq; omega))
  have D3 := hide (hm.sl D2.out hB (fun q hq => by have := hq2 q hq; omega) (by have := T2.out.2.2.2; omega))
  have E3 := hide (hm.sl E2.out hB (fun q hq => by have := hq2 q hq; omega) (by have := T2.out.2.2.2; omega))
  have hl3 : (ys2 ++ writeL [x.n2, x.n3, x.n4, x.n5, x.n6, x.n7, x.n8, x.n9]).length ≤ ys2.length + 80 := by have := (writeL_len [x.n2, x.n3, x.n4, x.n5, x.n6, x.n7, x.n8, x.n9]).1; simp only [List.length_cons, List.length_nil] at this; simp only [List.length_append]; omega
  generalize hY : ys2 ++ writeL [x.n2, x.n3, x.n4, x.n5, x.n6, x.n7, x.n8, x.n9] = ys3 at *
  have HY3 := hide hY
  have T3 := hide hT
  have K3 := hide (K2.out.trans hm)
  clear hT hm hY T2 G2 K2 hq2 D2 E2
  go_wp2_with (fail)
  refine (int_wr T3.out G3.out (o := 10) rfl F10.out (by omega)).mono ?_
  rintro e w4 ⟨rfl, B4, d4, hT, hm⟩
  have hq3 : ∀ q, (Value.slice B3 ys3.length d3).ownBlock = some q → base ≤ q := fun q hq => (T3.out.2.1.lt q hq).1
  have G4 := hide (hm.blk G3.out hgt (fun q hq => by have := hq3 q hq; omega))
  have D4 := hide (hm.sl D3.out hB (fun q hq => by have := hq3 q hq; omega) (by have := T3.out.2.2.2; omega))
  have E4 := hide (hm.sl E3.out hB (fun q hq => by have := hq3 q hq; omega) (by have := T3.out.2.2.2; omega))
  have hl4 : (ys3 ++ codeN x.n10).length ≤ ys3.length + 10 := by have := (codeN_len x.n10).1; simp only [List.length_append]; omega
  generalize hY : ys3 ++ codeN x.n10 = ys4 at *
  have HY4 := hide hY
  have T4 := hide hT
  have K4 := hide (K3.out.trans hm)
  clear hT hm hY T3 G3 K3 hq3 D3 E3
  go_wp2_with (fail)
  refine (int_wr T4.out G4.out (o := 11) rfl F11.out (by omega)).mono ?_
  rintro e w5 ⟨rfl, B5, d5, hT, hm⟩
  have hq4 : ∀ q, (Value.slice B4 ys4.length d4).ownBlock = some q → base ≤ q := fun q hq => (T4.out.2.1.lt q hq).1
  have G5 := hide (hm.blk G4.out hgt (fun q hq => by have := hq4 q hq; omega))
  have D5 := hide (hm.sl D4.out hB (fun q hq => by have := hq4 q hq; omega) (by have := T4.out.2.2.2; omega))
  have E5 := hide (hm.sl E4.out hB (fun q hq => by have := hq4 q hq; omega) (by have := T4.out.2.2.2; omega))
  have hl5 : (ys4 ++ codeN x.n11).length ≤ ys4.length + 10 := by have := (codeN_len x.n11).1; simp only [List.length_append]; omega
  generalize hY : ys4 ++ codeN x.n11 = ys5 at *
  have HY5 := hide hY
  have T5 := hide hT
  have K5 := hide (K4.out.trans hm)
  clear hT hm hY T4 G4 K4 hq4 D4 E4
  go_wp2_with (fail)
  refine (ints_wr T5.out G5.out (o := 12) rfl D5.out FD.out (by omega) (by omega) hgt hgb hB).mono ?_
  rintro e w6 ⟨rfl, B6, d6, hT, hm⟩
  have hq5 : ∀ q, (Value.slice B5 ys5.length d5).ownBlock = some q → base ≤ q := fun q hq => (T5.out.2.1.lt q hq).1
  have G6 := hide (hm.blk G5.out hgt (fun q hq => by have := hq5 q hq; omega))
  have D6 := hide (hm.sl D5.out hB (fun q hq => by have := hq5 q hq; omega) (by have := T5.out.2.2.2; omega))
  have E6 := hide (hm.sl E5.out hB (fun q hq => by have := hq5 q hq; omega) (by have := T5.out.2.2.2; omega))
  have hl6 : (ys5 ++ writeL ((x.ds.length : Int) :: x.ds)).length ≤ ys5.length + 20010 := by have := (writeL_len ((x.ds.length : Int) :: x.ds)).1; simp only [List.length_cons] at this; simp only [List.length_append]; omega
  generalize hY : ys5 ++ writeL ((x.ds.length : Int) :: x.ds) = ys6 at *
  have HY6 := hide hY
  have T6 := hide hT
  have K6 := hide (K5.out.trans hm)
  clear hT hm hY T5 G5 K5 hq5 D5 E5
  go_wp2_with (fail)
  refine (small_wr T6.out G6.out (o := 13) rfl F13.out (by omega) hgt hgb).mono ?_
  rintro e w7 ⟨rfl, B7, d7, hT, hm⟩
  have hq6 : ∀ q, (Value.slice B6 ys6.length d6).ownBlock = some q → base ≤ q := fun q hq => (T6.out.2.1.lt q hq).1
  have G7 := hide (hm.blk G6.out hgt (fun q hq => by have := hq6 q hq; omega))
  have D7 := hide (hm.sl D6.out hB (fun q hq => by have := hq6 q hq; omega) (by have := T6.out.2.2.2; omega))
  have E7 := hide (hm.sl E6.out hB (fun q hq => by have := hq6 q hq; omega) (by have := T6.out.2.2.2; omega))
  have hl7 : (ys6 ++ codeN x.n13).length ≤ ys6.length + 10 := by have := (codeN_len x.n13).1; simp only [List.length_append]; omega
  generalize hY : ys6 ++ codeN x.n13 = ys7 at *
  have HY7 := hide hY
  have T7 := hide hT
  have K7 := hide (K6.out.trans hm)
  clear hT hm hY T6 G6 K6 hq6 D6 E6
  go_wp2_with (fail)
  refine (int_wr T7.out G7.out (o := 14) rfl F14.out (by omega)).mono ?_
  rintro e w8 ⟨rfl, B8, d8, hT, hm⟩
  have hq7 : ∀ q, (Value.slice B7 ys7.length d7).ownBlock = some q → base ≤ q := fun q hq => (T7.out.2.1.lt q hq).1
  have G8 := hide (hm.blk G7.out hgt (fun q hq => by have := hq7 q hq; omega))
  have D8 := hide (hm.sl D7.out hB (fun q hq => by have := hq7 q hq; omega) (by have := T7.out.2.2.2; omega))
  have E8 := hide (hm.sl E7.out hB (fun q hq => by have := hq7 q hq; omega) (by have := T7.out.2.2.2; omega))
  have hl8 : (ys7 ++ codeN x.n14).length ≤ ys7.length + 10 := by have := (codeN_len x.n14).1; simp only [List.length_append]; omega
  generalize hY : ys7 ++ codeN x.n14 = ys8 at *
  have HY8 := hide hY
  have T8 := hide hT
  have K8 := hide (K7.out.trans hm)
  clear hT hm hY T7 G7 K7 hq7 D7 E7
  go_wp2_with (fail)
  refine (int_wr T8.out G8.out (o := 15) rfl F15.out (by omega)).mono ?_
  rintro e w9 ⟨rfl, B9, d9, hT, hm⟩
  have hq8 : ∀ q, (Value.slice B8 ys8.length d8).ownBlock = some q → base ≤ q := fun q hq => (T8.out.2.1.lt q hq).1
  have G9 := hide (hm.blk G8.out hgt (fun q hq => by have := hq8 q hq; omega))
  have D9 := hide (hm.sl D8.out hB (fun q hq => by have := hq8 q hq; omega) (by have := T8.out.2.2.2; omega))
  have E9 := hide (hm.sl E8.out hB (fun q hq => by have := hq8 q hq; omega) (by have := T8.out.2.2.2; omega))
  have hl9 : (ys8 ++ codeN x.n15).length ≤ ys8.length + 10 := by have := (codeN_len x.n15).1; simp only [List.length_append]; omega
  generalize hY : ys8 ++ codeN x.n15 = ys9 at *
  have HY9 := hide hY
  have T9 := hide hT
  have K9 := hide (K8.out.trans hm)
  clear hT hm hY T8 G8 K8 hq8 D8 E8
  go_wp2_with (fail)
  refine (text_wr T9.out G9.out (o := 16) rfl E9.out FB.out (by omega) (by omega) hgt hgb hB).mono ?_
  rintro e w10 ⟨rfl, B10, d10, hT, hm⟩
  have hq9 : ∀ q, (Value.slice B9 ys9.length d9).ownBlock = some q → base ≤ q := fun q hq => (T9.out.2.1.lt q hq).1
  have G10 := hide (hm.blk G9.out hgt (fun q hq => by have := hq9 q hq; omega))
  have D10 := hide (hm.sl D9.out hB (fun q hq => by have := hq9 q hq; omega) (by have := T9.out.2.2.2; omega))
  have E10 := hide (hm.sl E9.out hB (fun q hq => by have := hq9 q hq; omega) (by have := T9.out.2.2.2; omega))
  have hl10 : (ys9 ++ writeL ((x.bs.length : Int) :: x.bs)).length ≤ ys9.length + 20010 := by have := (writeL_len ((x.bs.length : Int) :: x.bs)).1; simp only [List.length_cons] at this; simp only [List.length_append]; omega
  generalize hY : ys9 ++ writeL ((x.bs.length : Int) :: x.bs) = ys10 at *
  have HY10 := hide hY
  have T10 := hide hT
  have K10 := hide (K9.out.trans hm)
  clear hT hm hY T9 G9 K9 hq9 D9 E9
  go_wp2
  go_end0
  have hfin : xs ++ writeL x.flat = ys10 := by rw [← HY10.out, ← HY9.out, ← HY8.out, ← HY7.out, ← HY6.out, ← HY5.out, ← HY4.out, ← HY3.out, ← HY2.out, ← HY1.out]; simp [writeL, CmdD.flat, flatC]
  exact ⟨rfl, B10, d10, by rw [hfin]; exact T10.out, by rw [hfin]; exact K10.out⟩
end Go.Proofs.Ytlcgpldngooekaa
