/- The reference's code of a command, and whether two commands are the same: the contracts. -/
import Derived.Test.YtlcgpldngooekaaRC
import Derived.Test.YtlcgpldngooekaaSameN
namespace Go.Proofs.Ytlcgpldngooekaa
open Go.RowKit
set_option linter.unusedVariables false
theorem CmdD.Ok.ints {x : CmdD} (h : x.Ok) (h1 : x.ds.length ≤ 1000000) (h2 : x.bs.length ≤ 1000000) : Ints x.flat := by
  obtain ⟨⟨a0, a1, a2, a3, a4, a5, a6, a7, a8, a9, a10, a11, a13, a14, a15⟩, hd, hb⟩ := h
  intro n hn
  simp only [CmdD.flat, flatC, List.mem_cons, List.mem_append] at hn
  rcases hn with rfl | rfl | rfl | rfl | rfl | rfl | rfl | rfl | rfl | rfl | rfl | rfl | rfl | hn | rfl | rfl | rfl | rfl | hn
  · exact a0
  · exact a1
  · exact a2
  · exact a3
  · exact a4
  · exact a5
  · exact a6
  · exact a7
  · exact a8
  · exact a9
  · exact a10
  · exact a11
  · exact ⟨by omega, by omega⟩
  · exact hd n hn
  · exact a13
  · exact a14
  · exact a15
  · exact ⟨by omega, by omega⟩
  · have := hb n hn; exact ⟨by omega, by omega⟩
theorem CmdD.flat_len (x : CmdD) : x.flat.length = x.ds.length + x.bs.length + 17 := by simp [CmdD.flat, flatC]; omega
/-- a code of the call's own was made -/
def CodeR (l : List Int) (w : World) (e : Ending) (w' : World) : Prop :=
  ∃ (A : Option Addr) (c : Nat), e = .returned (.tuple #[.slice A l.length c, .int .i64 0]) ∧ w'.ownsRow w.heap.size 5 1 (.slice A l.length c) l.length (l.map (Value.int .u8)) ∧ Below w.heap.size w w'
theorem renc_nums (A : Option Addr) (n c : Nat) (l : List Int) (w : World) (h : Sl w w.heap.size A n (l.map (Value.int .i64))) (hi : Ints l) (hn : n ≤ 10000) :
    Calls Try.prog 40 #[.slice A n c] w (CodeR (writeL l) w) := by
  have hl := h.len
  have hlen := (writeL_len l).1
  have C24 := hide (rwrite_any A n c l w h hi (by omega))
  generalize hM : (writeL l).length = M at *
  have hMb : M ≤ 100000 := by omega
  have hd : decide ((1048576 : Int) < (M : Int)) = false := by simp; omega
  have HM := hide hM
  clear h hi hl hlen hM
  go_enter Try.func40, Try.ntmps40
  go_wp2_with (fail)
  refine C24.out.mono ?_
  rintro e w1 ⟨A', c', rfl, hown, hbl⟩
  have HO := hide hown
  have HBL := hide hbl
  clear hown hbl
  go_wp2
  go_ret2
  exact ⟨A', c', by rw [HM.out]; rfl, by rw [HM.out]; exact HO.out, HBL.out⟩
set_option maxRecDepth 100000 in
theorem renc_any (v : Value) (x : CmdD) (B : Nat) (w : World) (h : HoldsC w B v x) (hok : x.Ok) (hB : B ≤ w.heap.size) (h1 : x.ds.length ≤ 200) (h2 : x.bs.length ≤ 500) :
    Calls Try.prog 27 #[v] w (CodeR (writeL x.flat) w) := by
  obtain ⟨A1, c1, A2, c2, rfl, hD, hE⟩ := h
  have C41 := hide (rcmd_any x A1 c1 A2 c2 B (w.alloc (.cells #[.int .i64 x.n0, .int .i64 x.n1, .int .i64 x.n2, .int .i64 x.n3, .int .i64 x.n4, .int .i64 x.n5, .int .i64 x.n6, .int .i64 x.n7, .int .i64 x.n8, .int .i64 x.n9, .int .i64 x.n10, .int .i64 x.n11, .slice A1 x.ds.length c1, .int .i64 x.n13, .int .i64 x.n14, .int .i64 x.n15, .slice A2 x.bs.length c2] 45)) (hD.alloc hB _) (hE.alloc hB _) hok.2.2 (by simp; omega) (by omega) (by omega))
  have B0 := hide ((Below.refl _ w).alloc (Nat.le_refl _) (.cells #[.int .i64 x.n0, .int .i64 x.n1, .int .i64 x.n2, .int .i64 x.n3, .int .i64 x.n4, .int .i64 x.n5, .int .i64 x.n6, .int .i64 x.n7, .int .i64 x.n8, .int .i64 x.n9, .int .i64 x.n10, .int .i64 x.n11, .slice A1 x.ds.length c1, .int .i64 x.n13, .int .i64 x.n14, .int .i64 x.n15, .slice A2 x.bs.length c2] 45))
  have hs0 : w.heap.size ≤ (w.alloc (.cells #[.int .i64 x.n0, .int .i64 x.n1, .int .i64 x.n2, .int .i64 x.n3, .int .i64 x.n4, .int .i64 x.n5, .int .i64 x.n6, .int .i64 x.n7, .int .i64 x.n8, .int .i64 x.n9, .int .i64 x.n10, .int .i64 x.n11, .slice A1 x.ds.length c1, .int .i64 x.n13, .int .i64 x.n14, .int .i64 x.n15, .slice A2 x.bs.length c2] 45)).heap.size := by simp
  have C40 := hide (fun (A : Option Addr) (n c : Nat) (w1 : World) (h : Sl w1 w1.heap.size A n (x.flat.map (Value.int .i64))) (hn : n ≤ 10000) => renc_nums A n c x.flat w1 h (hok.ints (by omega) (by omega)) hn)
  have HFN := hide x.flat_len
  have hfl := x.flat_len
  clear hD hE hok
  unfold NumsR at C41
  unfold CodeR at C40
  generalize hM : x.flat.length = M at *
  have hMb : M ≤ 10000 := by omega
  clear hfl HFN hM
  unfold CmdD.cells
  go_enter Try.func27, Try.ntmps27
  go_wp2_with (fail)
  refine C41.out.mono ?_
  rintro e w1 ⟨A, c, rfl, hown, hbl⟩
  have C := hide (C40.out A M c w1 (Sl.of_own hown) hMb)
  have HBL := hide (B0.out.trans (hbl.mono hs0))
  have hsz := HBL.out.size
  clear hown hbl
  go_wp2_with (fail)
  refine C.out.mono ?_
  rintro e w2 ⟨A', c', rfl, hown2, hbl2⟩
  have HO := hide hown2
  have HB2 := hide (HBL.out.trans (hbl2.mono hsz))
  clear hown2 hbl2
  go_wp2
  go_ret2
  exact ⟨A', c', rfl, own_mono HO.out hsz, HB2.out⟩
theorem held34 {w w' : World} {p q : Nat} {t t' : TypeId} {v0 v1 v2 v3 v4 v5 v6 v7 v8 v9 v10 v11 v12 v13 v14 v15 v16 u0 u1 u2 u3 u4 u5 u6 u7 u8 u9 u10 u11 u12 u13 u14 u15 u16 : Value} (h : Blk w p t #[v0, v1, v2, v3, v4, v5, v6, v7, v8, v9, v10, v11, v12, v13, v14, v15, v16]) (k : Blk w q t' #[u0, u1, u2, u3, u4, u5, u6, u7, u8, u9, u10, u11, u12, u13, u14, u15, u16]) (hb : Below w.heap.size w w') : w'.cell? ⟨p, 0, none⟩ = some (v0) ∧ w'.cell? ⟨p, 1, none⟩ = some (v1) ∧ w'.cell? ⟨p, 2, none⟩ = some (v2) ∧ w'.cell? ⟨p, 3, none⟩ = some (v3) ∧ w'.cell? ⟨p, 4, none⟩ = some (v4) ∧ w'.cell? ⟨p, 5, none⟩ = some (v5) ∧ w'.cell? ⟨p, 6, none⟩ = some (v6) ∧ w'.cell? ⟨p, 7, none⟩ = some (v7) ∧ w'.cell? ⟨p, 8, none⟩ = some (v8) ∧ w'.cell? ⟨p, 9, none⟩ = some (v9) ∧ w'.cell? ⟨p, 10, none⟩ = some (v10) ∧ w'.cell? ⟨p, 11, none⟩ = some (v11) ∧ w'.cell? ⟨p, 12, none⟩ = some (v12) ∧ w'.cell? ⟨p, 13, none⟩ = some (v13) ∧ w'.cell? ⟨p, 14, none⟩ = some (v14) ∧ w'.cell? ⟨p, 15, none⟩ = some (v15) ∧ w'.cell? ⟨p, 16, none⟩ = some (v16) ∧ w'.cell? ⟨q, 0, none⟩ = some (u0) ∧ w'.cell? ⟨q, 1, none⟩ = some (u1) ∧ w'.cell? ⟨q, 2, none⟩ = some (u2) ∧ w'.cell? ⟨q, 3, none⟩ = some (u3) ∧ w'.cell? ⟨q, 4, none⟩ = some (u4) ∧ w'.cell? ⟨q, 5, none⟩ = some (u5) ∧ w'.cell? ⟨q, 6, none⟩ = some (u6) ∧ w'.cell? ⟨q, 7, none⟩ = some (u7) ∧ w'.cell? ⟨q, 8, none⟩ = some (u8) ∧ w'.cell? ⟨q, 9, none⟩ = some (u9) ∧ w'.cell? ⟨q, 10, none⟩ = some (u10) ∧ w'.cell? ⟨q, 11, none⟩ = some (u11) ∧ w'.cell? ⟨q, 12, none⟩ = some (u12) ∧ w'.cell? ⟨q, 13, none⟩ = some (u13) ∧ w'.cell? ⟨q, 14, none⟩ = some (u14) ∧ w'.cell? ⟨q, 15, none⟩ = some (u15) ∧ w'.cell? ⟨q, 16, none⟩ = some (u16) := by
  have h' := h.below hb h.lt
  have k' := k.below hb k.lt
  exact ⟨h'.cell 0, h'.cell 1, h'.cell 2, h'.cell 3, h'.cell 4, h'.cell 5, h'.cell 6, h'.cell 7, h'.cell 8, h'.cell 9, h'.cell 10, h'.cell 11, h'.cell 12, h'.cell 13, h'.cell 14, h'.cell 15, h'.cell 16, k'.cell 0, k'.cell 1, k'.cell 2, k'.cell 3, k'.cell 4, k'.cell 5, k'.cell 6, k'.cell 7, k'.cell 8, k'.cell 9, k'.cell 10, k'.cell 11, k'.cell 12, k'.cell 13, k'.cell 14, k'.cell 15, k'.cell 16⟩
def SameR (a b : List Int) (w : World) (e : Ending) (w' : World) : Prop := e = .returned (.bool (decide (a = b))) ∧ Below w.heap.size w w'
set_option maxRecDepth 100000 in
set_option maxHeartbeats 2000000 in
theorem rsame_any (v v' : Value) (x y : CmdD) (B : Nat) (w : World) (h : HoldsC w B v x) (h' : HoldsC w B v' y) (hx : Bytes x.bs) (hy : Bytes y.bs) (hB : B ≤ w.heap.size) (h1 : x.ds.length ≤ 1000000) (h2 : x.bs.length ≤ 1000000) (h3 : y.ds.length ≤ 1000000) (h4 : y.bs.length ≤ 1000000) :
    Calls Try.prog 30 #[v, v'] w (SameR x.flat y.flat w) := by
  obtain ⟨A1, c1, A2, c2, rfl, hD, hE⟩ := h
  obtain ⟨A3, c3, A4, c4, rfl, hD', hE'⟩ := h'
  have qP : Blk ((w.alloc (.cells #[.int .i64 x.n0, .int .i64 x.n1, .int .i64 x.n2, .int .i64 x.n3, .int .i64 x.n4, .int .i64 x.n5, .int .i64 x.n6, .int .i64 x.n7, .int .i64 x.n8, .int .i64 x.n9, .int .i64 x.n10, .int .i64 x.n11, .slice A1 x.ds.length c1, .int .i64 x.n13, .int .i64 x.n14, .int .i64 x.n15, .slice A2 x.bs.length c2] 45)).alloc (.cells #[.int .i64 y.n0, .int .i64 y.n1, .int .i64 y.n2, .int .i64 y.n3, .int .i64 y.n4, .int .i64 y.n5, .int .i64 y.n6, .int .i64 y.n7, .int .i64 y.n8, .int .i64 y.n9, .int .i64 y.n10, .int .i64 y.n11, .slice A3 y.ds.length c3, .int .i64 y.n13, .int .i64 y.n14, .int .i64 y.n15, .slice A4 y.bs.length c4] 45)) w.heap.size 45 #[.int .i64 x.n0, .int .i64 x.n1, .int .i64 x.n2, .int .i64 x.n3, .int .i64 x.n4, .int .i64 x.n5, .int .i64 x.n6, .int .i64 x.n7, .int .i64 x.n8, .int .i64 x.n9, .int .i64 x.n10, .int .i64 x.n11, .slice A1 x.ds.length c1, .int .i64 x.n13, .int .i64 x.n14, .int .i64 x.n15, .slice A2 x.bs.length c2] := (Blk.new w 45 _).alloc _
  have qQ : Blk ((w.alloc (.cells #[.int .i64 x.n0, .int .i64 x.n1, .int .i64 x.n2, .int .i64 x.n3, .int .i64 x.n4, .int .i64 x.n5, .int .i64 x.n6, .int .i64 x.n7, .int .i64 x.n8, .int .i64 x.n9, .int .i64 x.n10, .int .i64 x.n11, .slice A1 x.ds.length c1, .int .i64 x.n13, .int .i64 x.n14, .int .i64 x.n15, .slice A2 x.bs.length c2] 45)).alloc (.cells #[.int .i64 y.n0, .int .i64 y.n1, .int .i64 y.n2, .int .i64 y.n3, .int .i64 y.n4, .int .i64 y.n5, .int .i64 y.n6, .int .i64 y.n7, .int .i64 y.n8, .int .i64 y.n9, .int .i64 y.n10, .int .i64 y.n11, .slice A3 y.ds.length c3, .int .i64 y.n13, .int .i64 y.n14, .int .i64 y.n15, .slice A4 y.bs.length c4] 45)) (w.heap.size + 1) 45 #[.int .i64 y.n0, .int .i64 y.n1, .int .i64 y.n2, .int .i64 y.n3, .int .i64 y.n4, .int .i64 y.n5, .int .i64 y.n6, .int .i64 y.n7, .int .i64 y.n8, .int .i64 y.n9, .int .i64 y.n10, .int .i64 y.n11, .slice A3 y.ds.length c3, .int .i64 y.n13, .int .i64 y.n14, .int .i64 y.n15, .slice A4 y.bs.length c4] := Blk.new_at (by simp) _ _
  have qB : Below w.heap.size w ((w.alloc (.cells #[.int .i64 x.n0, .int .i64 x.n1, .int .i64 x.n2, .int .i64 x.n3, .int .i64 x.n4, .int .i64 x.n5, .int .i64 x.n6, .int .i64 x.n7, .int .i64 x.n8, .int .i64 x.n9, .int .i64 x.n10, .int .i64 x.n11, .slice A1 x.ds.length c1, .int .i64 x.n13, .int .i64 x.n14, .int .i64 x.n15, .slice A2 x.bs.length c2] 45)).alloc (.cells #[.int .i64 y.n0, .int .i64 y.n1, .int .i64 y.n2, .int .i64 y.n3, .int .i64 y.n4, .int .i64 y.n5, .int .i64 y.n6, .int .i64 y.n7, .int .i64 y.n8, .int .i64 y.n9, .int .i64 y.n10, .int .i64 y.n11, .slice A3 y.ds.length c3, .int .i64 y.n13, .int .i64 y.n14, .int .i64 y.n15, .slice A4 y.bs.length c4] 45)) := ((Below.refl _ w).alloc (Nat.le_refl _) _).alloc (by simp) _
  have C1 := hide (fun (w1 : World) (hb : Below w.heap.size w w1) => rcmd_any x A1 c1 A2 c2 B w1 (hD.below (hb.mono hB)) (hE.below (hb.mono hB)) hx (by have := hb.size; omega) h1 h2)
  have C2 := hide (fun (w1 : World) (hb : Below w.heap.size w w1) => rcmd_any y A3 c3 A4 c4 B w1 (hD'.below (hb.mono hB)) (hE'.below (hb.mono hB)) hy (by have := hb.size; omega) h3 h4)
  have hf1 := x.flat_len
  have hf2 := y.flat_len
  have C25 := hide (fun (A A' : Option Addr) (c c' B1 B2 : Nat) (w1 : World) (k1 : Sl w1 B1 A x.flat.length (x.flat.map (Value.int .i64))) (k2 : Sl w1 B2 A' y.flat.length (y.flat.map (Value.int .i64))) => same_any A A' x.flat.length c B1 y.flat.length c' B2 x.flat y.flat w1 k1 (by omega) k2 (by omega))
  clear hD hE hD' hE' hx hy
  unfold NumsR at C1 C2
  unfold SameEnd at C25
  generalize hM : x.flat.length = M at *
  generalize hN : y.flat.length = N at *
  clear hM hN hf1 hf2
  unfold CmdD.cells
  go_enter Try.func30, Try.ntmps30
  go_upto_region 1 with (fail)
  generalize ((w.alloc (.cells #[.int .i64 x.n0, .int .i64 x.n1, .int .i64 x.n2, .int .i64 x.n3, .int .i64 x.n4, .int .i64 x.n5, .int .i64 x.n6, .int .i64 x.n7, .int .i64 x.n8, .int .i64 x.n9, .int .i64 x.n10, .int .i64 x.n11, .slice A1 x.ds.length c1, .int .i64 x.n13, .int .i64 x.n14, .int .i64 x.n15, .slice A2 x.bs.length c2] 45)).alloc (.cells #[.int .i64 y.n0, .int .i64 y.n1, .int .i64 y.n2, .int .i64 y.n3, .int .i64 y.n4, .int .i64 y.n5, .int .i64 y.n6, .int .i64 y.n7, .int .i64 y.n8, .int .i64 y.n9, .int .i64 y.n10, .int .i64 y.n11, .slice A3 y.ds.length c3, .int .i64 y.n13, .int .i64 y.n14, .int .i64 y.n15, .slice A4 y.bs.length c4] 45)) = w0 at *
  have P0 := hide qP
  have Q0 := hide qQ
  have B0 := hide qB
  have hs0 := qB.size
  clear qP qQ qB
  go_region_held3 (fun w' => w'.cell? ⟨w.heap.size, 0, none⟩ = some (.int .i64 x.n0) ∧ w'.cell? ⟨w.heap.size, 1, none⟩ = some (.int .i64 x.n1) ∧ w'.cell? ⟨w.heap.size, 2, none⟩ = some (.int .i64 x.n2) ∧ w'.cell? ⟨w.heap.size, 3, none⟩ = some (.int .i64 x.n3) ∧ w'.cell? ⟨w.heap.size, 4, none⟩ = some (.int .i64 x.n4) ∧ w'.cell? ⟨w.heap.size, 5, none⟩ = some (.int .i64 x.n5) ∧ w'.cell? ⟨w.heap.size, 6, none⟩ = some (.int .i64 x.n6) ∧ w'.cell? ⟨w.heap.size, 7, none⟩ = some (.int .i64 x.n7) ∧ w'.cell? ⟨w.heap.size, 8, none⟩ = some (.int .i64 x.n8) ∧ w'.cell? ⟨w.heap.size, 9, none⟩ = some (.int .i64 x.n9) ∧ w'.cell? ⟨w.heap.size, 10, none⟩ = some (.int .i64 x.n10) ∧ w'.cell? ⟨w.heap.size, 11, none⟩ = some (.int .i64 x.n11) ∧ w'.cell? ⟨w.heap.size, 12, none⟩ = some (.slice A1 x.ds.length c1) ∧ w'.cell? ⟨w.heap.size, 13, none⟩ = some (.int .i64 x.n13) ∧ w'.cell? ⟨w.heap.size, 14, none⟩ = some (.int .i64 x.n14) ∧ w'.cell? ⟨w.heap.size, 15, none⟩ = some (.int .i64 x.n15) ∧ w'.cell? ⟨w.heap.size, 16, none⟩ = some (.slice A2 x.bs.length c2) ∧ w'.cell? ⟨w.heap.size + 1, 0, none⟩ = some (.int .i64 y.n0) ∧ w'.cell? ⟨w.heap.size + 1, 1, none⟩ = some (.int .i64 y.n1) ∧ w'.cell? ⟨w.heap.size + 1, 2, none⟩ = some (.int .i64 y.n2) ∧ w'.cell? ⟨w.heap.size + 1, 3, none⟩ = some (.int .i64 y.n3) ∧ w'.cell? ⟨w.heap.size + 1, 4, none⟩ = some (.int .i64 y.n4) ∧ w'.cell? ⟨w.heap.size + 1, 5, none⟩ = some (.int .i64 y.n5) ∧ w'.cell? ⟨w.heap.size + 1, 6, none⟩ = some (.int .i64 y.n6) ∧ w'.cell? ⟨w.heap.size + 1, 7, none⟩ = some (.int .i64 y.n7) ∧ w'.cell? ⟨w.heap.size + 1, 8, none⟩ = some (.int .i64 y.n8) ∧ w'.cell? ⟨w.heap.size + 1, 9, none⟩ = some (.int .i64 y.n9) ∧ w'.cell? ⟨w.heap.size + 1, 10, none⟩ = some (.int .i64 y.n10) ∧ w'.cell? ⟨w.heap.size + 1, 11, none⟩ = some (.int .i64 y.n11) ∧ w'.cell? ⟨w.heap.size + 1, 12, none⟩ = some (.slice A3 y.ds.length c3) ∧ w'.cell? ⟨w.heap.size + 1, 13, none⟩ = some (.int .i64 y.n13) ∧ w'.cell? ⟨w.heap.size + 1, 14, none⟩ = some (.int .i64 y.n14) ∧ w'.cell? ⟨w.heap.size + 1, 15, none⟩ = some (.int .i64 y.n15) ∧ w'.cell? ⟨w.heap.size + 1, 16, none⟩ = some (.slice A4 y.bs.length c4)) ((refine held34 P0.out Q0.out ?_; (repeat (first | with_reducible exact Below.refl _ _ | with_reducible exact hbA | with_reducible exact hbB | with_reducible refine Below.drew ?_ | with_reducible refine below_drewN ?_ _)))) (first | (go_at_call 41; with_reducible refine (C1.out _ ?_).mono ?_; (· refine B0.out.trans (Below.mono (B := w0.heap.size) ?_ hs0); (repeat (first | with_reducible exact Below.refl _ _ | with_reducible exact hbA | with_reducible exact hbB | with_reducible refine Below.drew ?_ | with_reducible refine below_drewN ?_ _))); rintro e w1 ⟨A, c, rfl, hown, hb1⟩; refine have_ (p := Below w0.heap.size w0 w1) ?_ ?_; (· refine Bl.call' ?_ hb1; (repeat (first | with_reducible exact Below.refl _ _ | with_reducible exact hbA | with_reducible exact hbB | with_reducible refine Below.drew ?_ | with_reducible refine below_drewN ?_ _))); intro hbA) | (go_at_call 41; with_reducible refine (C2.out _ ?_).mono ?_; (· refine B0.out.trans (Below.mono (B := w0.heap.size) ?_ hs0); (repeat (first | with_reducible exact Below.refl _ _ | with_reducible exact hbA | with_reducible exact hbB | with_reducible refine Below.drew ?_ | with_reducible refine below_drewN ?_ _))); rintro e w2 ⟨A', c', rfl, hown2, hb2⟩; refine have_ (p := Below w0.heap.size w0 w2) ?_ ?_; (· refine Bl.call' ?_ hb2; (repeat (first | with_reducible exact Below.refl _ _ | with_reducible exact hbA | with_reducible exact hbB | with_reducible refine Below.drew ?_ | with_reducible refine below_drewN ?_ _))); intro hbB; have S1 := (Sl.of_own hown).below hb2) | (go_at_call 25; refine (C25.out A A' c c' _ _ w2 S1 (Sl.of_own hown2)).mono ?_; rintro e w3 ⟨rfl, k, rfl⟩))
  all_goals
    go_wp2
    go_ret
    exact ⟨rfl, below_drewN (B0.out.trans (hbB.mono hs0)) k⟩
end Go.Proofs.Ytlcgpldngooekaa
