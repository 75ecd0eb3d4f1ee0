/- A list of numbers, or of bytes, read from a tape: the contract. -/
import Derived.Test.YtlcgpldngooekaaVB
import Derived.Test.YtlcgpldngooekaaTL
import Derived.Test.YtlcgpldngooekaaVC
import Derived.StillTailTactics
import Derived.Deep.RegionLaw
namespace Go.Proofs.Ytlcgpldngooekaa
open Go.RowKit
set_option linter.unusedVariables false
/-- a list was read into cell o of block g -/
def ListB (l : List Int) (A : Option Addr) (n c tb a : Nat) (bad : Bool) (g o : Nat) (tg : TypeId) (cs : Array Value) (w : World) (e : Ending) (w' : World) : Prop :=
  e = .returned (.tuple #[]) ∧ ∃ (A' : Option Addr) (c' : Nat) (ds : List Int) (a' : Nat) (bad' : Bool), TookL IsByte (leftV l a bad) (leftV l a' bad') ds ∧ (∀ d ∈ ds, 0 ≤ d ∧ d ≤ 255) ∧ ds.length ≤ n ∧ TR l A n c w' tb a' bad' ∧ Blk w' g tg (cs.setIfInBounds o (.slice A' ds.length c')) ∧
    w'.ownsRow w.heap.size 5 1 (.slice A' ds.length c') ds.length (ds.map (Value.int .u8)) ∧ Keep tb g w w'
theorem infoListB : (Try.prog.info? 5).map (fun i => (i.zero, i.size, i.bytes)) = some (some (.int .u8 0), 1, 1) := by kernel_rfl
set_option maxRecDepth 100000 in
set_option maxHeartbeats 2000000 in
theorem listB_rd {l : List Int} {A A0 : Option Addr} {n c B tb a k0 c0 : Nat} {tc : Nat} {bad : Bool} {w : World} {g o : Nat} {tg : TypeId} {cs : Array Value} (hT : TR l A n c w tb a bad) (hS : Sl w B A n (l.map (Value.int .u8))) (hBt : B ≤ tb) (hBg : B ≤ g) (hb : Bytes l) (hn : n ≤ 1000000000)
    (hG : Blk w g tg cs) (hx : cs[o]? = some (.slice A0 k0 c0)) (hk0 : k0 ≤ 1000000000) (hne : g ≠ tb) (hC : Blk w tc 76 #[.pointer (some ⟨tb, 0, none⟩)]) (hct : tc ≠ tb) (hcg : tc ≠ g) :
    Calls Try.prog 65 #[.pointer (some ⟨tb, 0, none⟩), .pointer (some ⟨g, o, none⟩), (.func (.func 66) #[] #[.pointer (some ⟨tc, 0, none⟩)])] w (ListB l A n c tb a bad g o tg cs w) := by
  obtain ⟨i0, hi0, hz0, hz1, hz2⟩ := info_parts infoListB
  have hl := hS.len
  have ho : o < cs.size := (Array.getElem?_eq_some_iff.1 hx).1
  have hglt := hG.lt
  have htlt := hT.1.lt
  have hale : a ≤ n := by have := hT.2; omega
  have hT0 : a ≤ l.length := hT.2
  have hclt : tc < w.heap.size := hC.lt
  have hk0a : (k0 : Int) ≤ 1000000000 := by omega
  have g0 : w.cell? ⟨g, o, none⟩ = some (.slice A0 k0 c0) := (hG.cell o).trans hx
  have C67 := hide (fun (w0 : World) (t : TR l A n c w0 tb a bad) (s : Sl w0 B A n (l.map (Value.int .u8))) (x : Blk w0 w.heap.size 2 #[.int .i64 k0]) => within_rd (x := (k0 : Int)) 0 ((n : Int) - a) t s hb (by omega) x (o := 0) rfl ⟨by omega, by omega⟩ (by omega))
  have T1 := hide (hT.alloc (.cells #[.int .i64 k0] 2))
  have S1 := hide (hS.alloc (by omega) (.cells #[.int .i64 k0] 2))
  have N1 := hide (Blk.new w 2 #[.int .i64 k0])
  have G1 := hide (hG.alloc (.cells #[.int .i64 k0] 2))
  have K1 := hide ((Keep.refl tb g w).alloc (.cells #[.int .i64 k0] 2))
  have CC1 := hide (hC.alloc (.cells #[.int .i64 k0] 2))
  have hale2 := hide hT0
  have HX := hide hx
  have HB := hide hb
  have HL := hide hl
  clear hT0 hT hS hG hx hb hl hC
  unfold WithinR at C67
  go_enter Try.func65, Try.ntmps65
  go_upto_region 1 with (fail)
  generalize (w.alloc (.cells #[.int .i64 k0] 2)) = w1 at *
  have t0 : w1.cell? ⟨tb, 0, none⟩ = some (.slice A n c) := T1.out.1.cell 0
  have t1 : w1.cell? ⟨tb, 1, none⟩ = some (.int .i64 a) := T1.out.1.cell 1
  have hsub : (0 : Int) ≤ (n : Int) - (a : Int) ∧ (n : Int) - (a : Int) ≤ 1000000000 := by omega
  go_still_tail 11, (by kernel_rfl)
  change wpList _ _ _ _ _ w1.drew
  have T1d := hide T1.out.drew
  have S1d := hide S1.out.drew
  have N1d := hide N1.out.drew
  have KD := hide ((Keep.refl tb w.heap.size w1).drew)
  generalize w1.drew = wd at *
  go_upto_region 2 with (go_at_call 67; refine (C67.out _ ?_ ?_ ?_).mono ?_; (· exact T1d.out); (· exact S1d.out); (· exact N1d.out); rintro e w2 ⟨rfl, m, a1, b1, b2, hfm, hst, hcase, hT2, hN2, hK2⟩)
  have hwr0 : IntKind.i64.wrap ((n : Int) - (a : Int)) = (n : Int) - (a : Int) := by
    rw [show IntKind.i64.wrap ((n : Int) - (a : Int)) = wrap64 ((n : Int) - (a : Int)) from IntWalk.i64_left _]
    exact IntWalk.wrap64_in _ ⟨by omega, by omega⟩
  simp only [hwr0]
  clear hwr0
  have hK2' : Keep tb w.heap.size w1 w2 := KD.out.trans hK2
  have S2 := hide (hK2'.sl S1.out (by omega) (by omega) (by have := K1.out.size; omega))
  have G2 := hide (hK2'.blk G1.out hne (by omega))
  have K2 := hide (K1.out.own hK2' (Nat.le_refl _))
  have T2 := hide hT2
  have N2 := hide (show Blk w2 w.heap.size 2 #[.int .i64 m] by simpa using hN2)
  have HST := hide hst
  have HC := hide hcase
  have HFM := hide hfm
  have hw2 : w.heap.size < w2.heap.size := hN2.lt
  have CC2 := hide (hK2'.blk CC1.out hct (by omega))
  clear hst hcase hfm hT2 hN2 hK2 hK2' t0 t1
  clear T1 S1 N1 G1 K1 C67
  have t2 : w2.cell? ⟨tb, 2, none⟩ = some (.bool true) := T2.out.1.cell 2
  have g1 : w2.cell? ⟨g, o, none⟩ = some (.slice A0 k0 c0) := G2.out.cellv HX.out
  have gf := G2.out.frozen o
  go_wp2
  clear g0 g1 gf t2
  have G3 := hide (G2.out.set_ o (.slice none 0 0))
  have T3 := hide (T2.out.far (p := ⟨g, o, none⟩) (Ne.symm hne) (.slice none 0 0))
  have N3 := hide (N2.out.far (p := ⟨g, o, none⟩) (by simp; omega) (.slice none 0 0))
  have S3 := hide (S2.out.below ((Below.refl B w2).setCell (p := ⟨g, o, none⟩) hBg (.slice none 0 0)))
  have K3 := hide (K2.out.set_g o (.slice none 0 0))
  have CC3 := hide (CC2.out.far (p := ⟨g, o, none⟩) hcg (.slice none 0 0))
  have hw3 : w.heap.size < (w2.setCell ⟨g, o, none⟩ (.slice none 0 0)).heap.size := by simpa using hw2
  generalize (w2.setCell ⟨g, o, none⟩ (.slice none 0 0)) = w3 at *
  clear G2 T2 N2 S2 K2 CC2
  go_loopw [9] (fun xv wr => ∃ (a' : Nat) (bad' : Bool) (i : Nat) (acc : List Int) (A1 : Option Addr) (c1 : Nat), Going IsByte (leftV l a1 b2) m.toNat i acc (leftV l a' bad') ∧ (i = 0 ∧ bad' = b2 ∨ 0 ≤ m ∧ m ≤ (n : Int) - a) ∧ (∀ d ∈ acc, 0 ≤ d ∧ d ≤ 255) ∧ TR l A n c wr tb a' bad' ∧ Blk wr w.heap.size 2 #[.int .i64 (m - i)] ∧ Blk wr g tg (cs.setIfInBounds o (.slice A1 i c1)) ∧ wr.ownsRow (w.heap.size + 1) 5 1 (.slice A1 i c1) i (acc.map (Value.int .u8)) ∧ Keep tb g w wr ∧ Sl wr B A n (l.map (Value.int .u8)) ∧ w.heap.size < wr.heap.size ∧ Blk wr tc 76 #[.pointer (some ⟨tb, 0, none⟩)]) (fun _ wr => (intOf ((wr.cell? ⟨w.heap.size, 0, none⟩).getD (.int .i64 0))).toNat)
  case atStart => exact ⟨a1, b2, 0, [], none, 0, Going.start _ _, .inl ⟨rfl, rfl⟩, by simp, T3.out, by simpa using N3.out, G3.out, own_nil, K3.out, S3.out, hw3, CC3.out⟩
  case round =>
    obtain ⟨a', bad', i, acc, A1, c1, hgo, him, hfa, hT, hN, hG, hO, hK, hS, hw, hCC⟩ := hrel
    clear T3 N3 G3 K3 S3 CC3
    have hai := hgo.1
    have HGO := hide hgo
    have HIM := hide him
    have HFA := hide hfa
    have HAI := hide hai
    have hin : i ≤ m.toNat := hgo.2.1
    clear hgo him hfa hai
    have n0 : wr.cell? ⟨w.heap.size, 0, none⟩ = some (.int .i64 (m - i)) := hN.cell 0
    have t3 : wr.cell? ⟨tb, 3, none⟩ = some (.bool bad') := hT.1.cell 3
    by_cases hrem : 0 < m - (i : Int)
    rotate_left
    · have d1 : decide (0 < m - (i : Int)) = false := by simp; omega
      have hfin := list_fin HL.out HB.out hale2.out HST.out HC.out HGO.out HIM.out (.inl (by omega))
      have HF := hide hfin
      have HT := hide hT
      have HG := hide hG
      have HO := hide hO
      have HK := hide hK
      have hle : m - (i : Int) ≤ 0 := by omega
      clear hT hG hO hK hS hfin hrem
      go_wp2
      all_goals
       go_end0
       exact ⟨rfl, A1, c1, acc, a', bad', HF.out.1, HFA.out, by have := HF.out.2; have := HAI.out; omega, HT.out, by rw [HAI.out]; exact HG.out, by rw [HAI.out]; exact own_mono HO.out (by omega), HK.out⟩
    have d1 : decide (0 < m - (i : Int)) = true := by simpa using hrem
    cases bad' with
    | true =>
      have hfin := list_fin HL.out HB.out hale2.out HST.out HC.out HGO.out HIM.out (.inr rfl)
      have HF := hide hfin
      have HT := hide hT
      have HG := hide hG
      have HO := hide hO
      have HK := hide hK
      clear hT hG hO hK hS hfin
      go_wp2
      all_goals
       go_end0
       exact ⟨rfl, A1, c1, acc, a', true, HF.out.1, HFA.out, by have := HF.out.2; have := HAI.out; omega, HT.out, by rw [HAI.out]; exact HG.out, by rw [HAI.out]; exact own_mono HO.out (by omega), HK.out⟩
    | false =>
      have hwr : wr.heap.size ≠ tb ∧ wr.heap.size ≠ g ∧ wr.heap.size ≠ w.heap.size := by omega
      have hqo : ∀ q, (Value.slice A1 i c1).ownBlock = some q → w.heap.size + 1 ≤ q ∧ q < wr.heap.size := fun q hq => hO.lt q hq
      have C66 := hide (elem_rd (x := 0) (hT.alloc (.cells #[.int .u8 0] 5)) (hS.alloc (by omega) (.cells #[.int .u8 0] 5)) (by simp; omega) HB.out (by omega) (Blk.new wr 5 #[.int .u8 0]) ⟨by omega, by omega⟩ (hCC.alloc _) (by omega) hct (by omega))
      unfold ByteR at C66
      have N3 := hide (hN.alloc (.cells #[.int .u8 0] 5))
      have G3 := hide (hG.alloc (.cells #[.int .u8 0] 5))
      have O3 := hide (World.ownsRow.alloc hO (.cells #[.int .u8 0] 5))
      have K3 := hide (hK.alloc (.cells #[.int .u8 0] 5))
      have S3 := hide (hS.alloc (by omega) (.cells #[.int .u8 0] 5))
      have CC3 := hide (hCC.alloc (.cells #[.int .u8 0] 5))
      clear hT hN hG hO hK hS hCC
      go_upto_region 14 with (go_at_call 66; refine C66.out.mono ?_; rintro e w4 ⟨rfl, y, a2, bad2, hfy, hst4, hT4, hX4, hK4⟩)
      have T4 := hide hT4
      have T4b := hide (show Blk w4 tb 78 #[.slice A n c, .int .i64 a2, .bool true, .bool bad2] from T4.out.1)
      have X4 := hide (show Blk w4 wr.heap.size 5 #[.int .u8 y] by simpa using hX4)
      have N4 := hide (hK4.blk N3.out (by omega) (by omega))
      have G4 := hide (hK4.blk G3.out hne (by omega))
      have O4 := hide (hK4.owns O3.out (fun q hq => by have := hqo q hq; omega))
      have K4 := hide (K3.out.own hK4 (by omega))
      have S4 := hide (hK4.sl S3.out (by omega) (by omega) (by simp; omega))
      have CC4 := hide (hK4.blk CC3.out hct (by omega))
      have hw4 : wr.heap.size < w4.heap.size := hX4.lt
      have HG4 := hide (HGO.out.step (by omega) hst4)
      have HFY := hide hfy
      have HIM4 := hide (him_step HIM.out HC.out)
      clear hfy hst4
      have n0m := n0
      clear hT4 hX4 hK4 n0 t3 d1 N3 G3 O3 K3 S3 CC3
      have g0 : w4.cell? ⟨g, o, none⟩ = some (.slice A1 i c1) := G4.out.cellv (by simp [ho])
      have x0 : w4.cell? ⟨wr.heap.size, 0, none⟩ = some (.int .u8 y) := X4.out.cell 0
      have gf := G4.out.frozen o
      have hib : i ≤ 1000000000 := by rcases HIM.out with h | h <;> omega
      have g0a : (w4.alloc (.cells #[.int .u8 y] 5)).cell? ⟨g, o, none⟩ = some (.slice A1 i c1) := (G4.out.alloc _).cellv (by simp [ho])
      have x0a : (w4.alloc (.cells #[.int .u8 y] 5)).cell? ⟨wr.heap.size, 0, none⟩ = some (.int .u8 y) := (X4.out.alloc _).cell 0
      go_region_law (first | (refine step_app1 (o := ⟨some 68, _, _, _, _, _⟩) trivial (by rfl) (.tmp 65) (.tmp 67) 22 (by rfl) (w.heap.size + 1) 5 i0 (.int .u8 0) 1 Try.underlying22 hi0 hz0 hz1 hz2 rfl (.slice A1 i c1) i (acc.map (Value.int .u8)) (by rfl) ?_ (some ⟨_, 0, none⟩) 1 1 [.int .u8 y] (by rfl) ?_ ?_ (i + 1) ?_ ?_ ?_ ?_ ?_; (· repeat (first | with_reducible exact O4.out | with_reducible refine World.ownsRow.drew ?_ | with_reducible refine World.ownsRow.alloc ?_ _)); (· repeat (first | ((with_reducible refine Sl.one_h ?_ _ _); simp; done) | with_reducible refine Sl.drew_h ?_)); (· intro u hu; simp at hu; subst hu; rfl); (· rfl); (· simp only [maxLen]; omega); (· omega); (· simp; omega); intro A2 c2 w6 hown6 hg6; refine have_ (p := Blk w6 g tg (cs.setIfInBounds o (.slice A1 i c1))) ?_ ?_; (· refine wb_keep ?_ hg6 ?_; (· repeat (first | with_reducible exact G4.out | with_reducible refine Blk.drew ?_ | with_reducible refine Blk.alloc ?_ _)); (· intro q hq; have := hqo q hq; omega)); intro G6; refine have_ (p := TR l A n c w6 tb a2 bad2) ?_ ?_; (· refine ⟨wb_keep ?_ hg6 ?_, T4.out.2⟩; (· repeat (first | with_reducible exact T4b.out | with_reducible refine Blk.drew ?_ | with_reducible refine Blk.alloc ?_ _)); (· intro q hq; have := hqo q hq; omega)); intro T6; refine have_ (p := Blk w6 w.heap.size 2 #[.int .i64 (m - i)]) ?_ ?_; (· refine wb_keep ?_ hg6 ?_; (· repeat (first | with_reducible exact N4.out | with_reducible refine Blk.drew ?_ | with_reducible refine Blk.alloc ?_ _)); (· intro q hq; have := hqo q hq; omega)); intro N6; refine have_ (p := Blk w6 tc 76 #[.pointer (some ⟨tb, 0, none⟩)]) ?_ ?_; (· refine wb_keep ?_ hg6 ?_; (· repeat (first | with_reducible exact CC4.out | with_reducible refine Blk.drew ?_ | with_reducible refine Blk.alloc ?_ _)); (· intro q hq; have := hqo q hq; omega)); intro CC6; refine have_ (p := Keep tb g w w6) ?_ ?_; (· refine Keep.grown ?_ hg6 ?_; (· repeat (first | with_reducible exact K4.out | with_reducible refine Keep.drew ?_ | with_reducible refine Keep.alloc ?_ _)); (· intro q hq; have := hqo q hq; omega)); intro K6; refine have_ (p := Sl w6 B A n (l.map (Value.int .u8))) ?_ ?_; (· refine Sl.below S4.out (Below.grown (row := (Value.slice A1 i c1).ownBlock) ?_ hg6 ?_ ?_); (· repeat (first | with_reducible exact Below.refl _ _ | with_reducible refine Below.drew ?_ | (with_reducible refine Below.alloc ?_ ?_ _; rotate_left; (· first | omega | (simp; omega))))); (· simp; omega); (· intro q hq; have := hqo q hq; omega)); intro S6; refine have_ (p := wr.heap.size < w6.heap.size) ?_ ?_; (· have := hg6.size; simp at this; omega); intro hw6; have g6 : w6.cell? ⟨g, o, none⟩ = some (.slice A1 i c1) := G6.cellv (by simp [ho]); have f6 := G6.frozen o))
      all_goals
       have q6 : ∀ q, (Value.slice A2 (i + 1) c2).ownBlock = some q → q ≠ g := (fun q hq => by have := (World.ownsRow.lt hown6 q hq).1; omega)
       have N7 := hide (N6.far (p := ⟨g, o, none⟩) (by simp; omega) (.slice A2 (i + 1) c2))
       have G7 := hide (show Blk (w6.setCell ⟨g, o, none⟩ (.slice A2 (i + 1) c2)) g tg (cs.setIfInBounds o (.slice A2 (i + 1) c2)) by simpa using G6.set_ o (.slice A2 (i + 1) c2))
       have T7 := hide (T6.far (p := ⟨g, o, none⟩) (Ne.symm hne) (.slice A2 (i + 1) c2))
       have O7 := hide (own_far1 hown6 (p := ⟨g, o, none⟩) q6 (.slice A2 (i + 1) c2))
       have K7 := hide (K6.set_g o (.slice A2 (i + 1) c2))
       have S7 := hide (S6.below ((Below.refl B w6).setCell (p := ⟨g, o, none⟩) hBg (.slice A2 (i + 1) c2)))
       have CC7 := hide (CC6.far (p := ⟨g, o, none⟩) hcg (.slice A2 (i + 1) c2))
       have hw7 : wr.heap.size < (w6.setCell ⟨g, o, none⟩ (.slice A2 (i + 1) c2)).heap.size := by simpa using hw6
       clear N6 G6 T6 hown6 K6 S6 hg6 g6 f6 q6 hw6 CC6
       generalize (w6.setCell ⟨g, o, none⟩ (.slice A2 (i + 1) c2)) = w7 at *
       have n7 : w7.cell? ⟨w.heap.size, 0, none⟩ = some (.int .i64 (m - i)) := N7.out.cell 0
       have nf := N7.out.frozen 0
       have hmb : m ≤ 1000000000 := by have := HIM4.out; omega
       have n8 : (w7.setCell ⟨w.heap.size, 0, none⟩ (.int .i64 (m - (i : Int) - 1))).cell? ⟨w.heap.size, 0, none⟩ = some (.int .i64 (m - (i : Int) - 1)) := (N7.out.set_ 0 _).cell 0
       go_wp2
       go_roundw
       case rel =>
        exact ⟨a2, bad2, i + 1, acc ++ [y], A2, c2, HG4.out, .inr HIM4.out, (by intro d hd; rcases List.mem_append.1 hd with hd | hd; (· exact HFA.out d hd); (· obtain rfl : d = y := (by simpa using hd); exact HFY.out)), T7.out.far (by simp; omega) _, by have := N7.out.set_ 0 (.int .i64 (m - ((i + 1 : Nat) : Int))); simpa [show m - (i : Int) - 1 = m - ((i + 1 : Nat) : Int) by omega] using this, G7.out.far (by simp; omega) _, by simpa using own_far1 O7.out (p := ⟨w.heap.size, 0, none⟩) (fun q hq => by have := (World.ownsRow.lt O7.out q hq).1; simp; omega) (.int .i64 (m - (i : Int) - 1)), K7.out.set_own (Nat.le_refl _) 0 _, S7.out.below ((Below.refl B w7).setCell (p := ⟨w.heap.size, 0, none⟩) (by simp; omega) _), by simp; omega, CC7.out.far (by simp; omega) _⟩
       case measure => simp [n0m, n8, intOf]; omega
end Go.Proofs.Ytlcgpldngooekaa
