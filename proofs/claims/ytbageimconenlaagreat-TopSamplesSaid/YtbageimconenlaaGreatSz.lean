/- A synopsis of samples is asked: the contract. -/
import Derived.Test.YtbageimconenlaaGreatSy
namespace Go.Proofs.YtbageimconenlaaGreat
open Go.RowKit
set_option linter.unusedVariables false
set_option linter.unusedSimpArgs false
def SyAskE (xs : List Int) (w : World) (e : Ending) (w' : World) : Prop := ∃ (A : Option Addr) (k : Nat), e = .returned (.tuple #[.agg #[.int .i64 0, .int .i64 0, .int .i64 0, .int .i64 0, .int .i64 0, .int .i64 0, .slice A xs.length k, .int .u64 0, .int .u64 0, .int .u64 0, .int .u64 0], .int .i64 0]) ∧ OwnK w' w.heap.size 2 1 (.slice A xs.length k) xs.length (xs.map (Value.int .i64)) ∧ Below w.heap.size w w'
set_option maxRecDepth 100000 in
set_option maxHeartbeats 4000000 in
theorem synask_9 {W cap I qa qb : Int} {vv : Value} {B : Nat} {cs : List Ch} {w : World} (h : HSy w B W cap vv cs) (hV : VCs W cap I cs) (hI : 0 < I) (hB : B ≤ w.heap.size) : Calls Tryz.prog 14 #[vv, .agg #[.int .i64 10, .int .i64 qa, .int .i64 qb]] w (SyAskE (cs.map headV) w) := by
  obtain ⟨A, k, ps, rfl, hC⟩ := h
  have hn1 := hV.n1
  have hn2 := hV.n2
  have hVc := (hV.v _ (List.getElem_mem (show 0 < cs.length by omega))).1
  have C39 := hide (fun (w1 : World) (hb : Below w.heap.size w w1) => synval_9 (k := k) (hC.below (hb.mono hB)) hV (show B ≤ w1.heap.size by have := hb.size; omega))
  have C52 := hide (fun (w1 : World) => ans_9 W cap cs.length (by omega) (by omega) hVc.c1 hVc.c2 hVc.w1 hVc.w2 w1)
  have C61 := hide (fun (w1 : World) (hb : Below w.heap.size w w1) => sask_any (v := .agg #[.slice A cs.length k]) ⟨A, k, ps, rfl, hC.below (hb.mono hB)⟩ hV hI (show B ≤ w1.heap.size by have := hb.size; omega))
  clear hVc hV
  have hxl : (cs.map headV).length = cs.length := List.length_map _
  generalize cs.map headV = xs at *
  have HXL := hide hxl
  unfold syn9 RetB at C39
  unfold AnsL at C61
  rw [hxl] at C61
  unfold syn9 SyAskE
  rw [hxl]
  generalize cs.length = n at *
  clear hC hn1 hn2 hxl hI
  have qX : Blk ((((w.alloc (.cells (List.toArray (.int .i64 9 :: .int .i64 0 :: .int .i64 W :: .int .i64 0 :: .int .i64 cap :: .int .i64 0 :: .int .i64 n :: .int .i64 0 :: .int .i64 0 :: .int .i64 0 :: .int .i64 0 :: .slice none 0 0 :: .int .i64 0 :: .int .i64 0 :: .int .i64 0 :: .int .i64 0 :: .slice none 0 0 :: .int .i64 0 :: .int .i64 0 :: .int .i64 0 :: .int .i64 0 :: .int .i64 0 :: .slice none 0 0 :: .int .i64 0 :: .int .i64 0 :: .int .i64 0 :: .int .i64 0 :: .int .i64 0 :: .int .i64 0 :: .slice none 0 0 :: .int .i64 0 :: .int .i64 0 :: .int .i64 0 :: .int .i64 0 :: .int .i64 0 :: .slice none 0 0 :: .int .i64 0 :: .int .i64 0 :: .int .i64 0 :: .slice none 0 0 :: .int .i64 0 :: .slice none 0 0 :: .bool false :: .int .i64 0 :: .int .i64 0 :: .int .i64 0 :: .slice none 0 0 :: .slice A n k :: .int .i64 0 :: .int .i64 0 :: .int .i64 0 :: .slice none 0 0 :: .int .i64 0 :: .int .i64 0 :: .int .i64 0 :: .int .i64 0 :: .slice none 0 0 :: [])) 56))).alloc (.cells #[.int .i64 10, .int .i64 qa, .int .i64 qb] 81)).alloc (.cells #[.int .i64 0, .int .i64 0, .int .i64 0, .int .i64 0, .int .i64 0, .int .i64 0, .slice none 0 0, .int .u64 0, .int .u64 0, .int .u64 0, .int .u64 0] 77)) w.heap.size 56 (List.toArray (.int .i64 9 :: .int .i64 0 :: .int .i64 W :: .int .i64 0 :: .int .i64 cap :: .int .i64 0 :: .int .i64 n :: .int .i64 0 :: .int .i64 0 :: .int .i64 0 :: .int .i64 0 :: .slice none 0 0 :: .int .i64 0 :: .int .i64 0 :: .int .i64 0 :: .int .i64 0 :: .slice none 0 0 :: .int .i64 0 :: .int .i64 0 :: .int .i64 0 :: .int .i64 0 :: .int .i64 0 :: .slice none 0 0 :: .int .i64 0 :: .int .i64 0 :: .int .i64 0 :: .int .i64 0 :: .int .i64 0 :: .int .i64 0 :: .slice none 0 0 :: .int .i64 0 :: .int .i64 0 :: .int .i64 0 :: .int .i64 0 :: .int .i64 0 :: .slice none 0 0 :: .int .i64 0 :: .int .i64 0 :: .int .i64 0 :: .slice none 0 0 :: .int .i64 0 :: .slice none 0 0 :: .bool false :: .int .i64 0 :: .int .i64 0 :: .int .i64 0 :: .slice none 0 0 :: .slice A n k :: .int .i64 0 :: .int .i64 0 :: .int .i64 0 :: .slice none 0 0 :: .int .i64 0 :: .int .i64 0 :: .int .i64 0 :: .int .i64 0 :: .slice none 0 0 :: [])) := ((Blk.new _ _ _).alloc _).alloc _
  have qQ : Blk ((((w.alloc (.cells (List.toArray (.int .i64 9 :: .int .i64 0 :: .int .i64 W :: .int .i64 0 :: .int .i64 cap :: .int .i64 0 :: .int .i64 n :: .int .i64 0 :: .int .i64 0 :: .int .i64 0 :: .int .i64 0 :: .slice none 0 0 :: .int .i64 0 :: .int .i64 0 :: .int .i64 0 :: .int .i64 0 :: .slice none 0 0 :: .int .i64 0 :: .int .i64 0 :: .int .i64 0 :: .int .i64 0 :: .int .i64 0 :: .slice none 0 0 :: .int .i64 0 :: .int .i64 0 :: .int .i64 0 :: .int .i64 0 :: .int .i64 0 :: .int .i64 0 :: .slice none 0 0 :: .int .i64 0 :: .int .i64 0 :: .int .i64 0 :: .int .i64 0 :: .int .i64 0 :: .slice none 0 0 :: .int .i64 0 :: .int .i64 0 :: .int .i64 0 :: .slice none 0 0 :: .int .i64 0 :: .slice none 0 0 :: .bool false :: .int .i64 0 :: .int .i64 0 :: .int .i64 0 :: .slice none 0 0 :: .slice A n k :: .int .i64 0 :: .int .i64 0 :: .int .i64 0 :: .slice none 0 0 :: .int .i64 0 :: .int .i64 0 :: .int .i64 0 :: .int .i64 0 :: .slice none 0 0 :: [])) 56))).alloc (.cells #[.int .i64 10, .int .i64 qa, .int .i64 qb] 81)).alloc (.cells #[.int .i64 0, .int .i64 0, .int .i64 0, .int .i64 0, .int .i64 0, .int .i64 0, .slice none 0 0, .int .u64 0, .int .u64 0, .int .u64 0, .int .u64 0] 77)) (w.heap.size + 1) 81 #[.int .i64 10, .int .i64 qa, .int .i64 qb] := (Blk.new_at (by simp) _ _).alloc _
  have qR : Blk ((((w.alloc (.cells (List.toArray (.int .i64 9 :: .int .i64 0 :: .int .i64 W :: .int .i64 0 :: .int .i64 cap :: .int .i64 0 :: .int .i64 n :: .int .i64 0 :: .int .i64 0 :: .int .i64 0 :: .int .i64 0 :: .slice none 0 0 :: .int .i64 0 :: .int .i64 0 :: .int .i64 0 :: .int .i64 0 :: .slice none 0 0 :: .int .i64 0 :: .int .i64 0 :: .int .i64 0 :: .int .i64 0 :: .int .i64 0 :: .slice none 0 0 :: .int .i64 0 :: .int .i64 0 :: .int .i64 0 :: .int .i64 0 :: .int .i64 0 :: .int .i64 0 :: .slice none 0 0 :: .int .i64 0 :: .int .i64 0 :: .int .i64 0 :: .int .i64 0 :: .int .i64 0 :: .slice none 0 0 :: .int .i64 0 :: .int .i64 0 :: .int .i64 0 :: .slice none 0 0 :: .int .i64 0 :: .slice none 0 0 :: .bool false :: .int .i64 0 :: .int .i64 0 :: .int .i64 0 :: .slice none 0 0 :: .slice A n k :: .int .i64 0 :: .int .i64 0 :: .int .i64 0 :: .slice none 0 0 :: .int .i64 0 :: .int .i64 0 :: .int .i64 0 :: .int .i64 0 :: .slice none 0 0 :: [])) 56))).alloc (.cells #[.int .i64 10, .int .i64 qa, .int .i64 qb] 81)).alloc (.cells #[.int .i64 0, .int .i64 0, .int .i64 0, .int .i64 0, .int .i64 0, .int .i64 0, .slice none 0 0, .int .u64 0, .int .u64 0, .int .u64 0, .int .u64 0] 77)) (w.heap.size + 2) 77 #[.int .i64 0, .int .i64 0, .int .i64 0, .int .i64 0, .int .i64 0, .int .i64 0, .slice none 0 0, .int .u64 0, .int .u64 0, .int .u64 0, .int .u64 0] := Blk.new_at (by simp) _ _
  have qB : Below w.heap.size w ((((w.alloc (.cells (List.toArray (.int .i64 9 :: .int .i64 0 :: .int .i64 W :: .int .i64 0 :: .int .i64 cap :: .int .i64 0 :: .int .i64 n :: .int .i64 0 :: .int .i64 0 :: .int .i64 0 :: .int .i64 0 :: .slice none 0 0 :: .int .i64 0 :: .int .i64 0 :: .int .i64 0 :: .int .i64 0 :: .slice none 0 0 :: .int .i64 0 :: .int .i64 0 :: .int .i64 0 :: .int .i64 0 :: .int .i64 0 :: .slice none 0 0 :: .int .i64 0 :: .int .i64 0 :: .int .i64 0 :: .int .i64 0 :: .int .i64 0 :: .int .i64 0 :: .slice none 0 0 :: .int .i64 0 :: .int .i64 0 :: .int .i64 0 :: .int .i64 0 :: .int .i64 0 :: .slice none 0 0 :: .int .i64 0 :: .int .i64 0 :: .int .i64 0 :: .slice none 0 0 :: .int .i64 0 :: .slice none 0 0 :: .bool false :: .int .i64 0 :: .int .i64 0 :: .int .i64 0 :: .slice none 0 0 :: .slice A n k :: .int .i64 0 :: .int .i64 0 :: .int .i64 0 :: .slice none 0 0 :: .int .i64 0 :: .int .i64 0 :: .int .i64 0 :: .int .i64 0 :: .slice none 0 0 :: [])) 56))).alloc (.cells #[.int .i64 10, .int .i64 qa, .int .i64 qb] 81)).alloc (.cells #[.int .i64 0, .int .i64 0, .int .i64 0, .int .i64 0, .int .i64 0, .int .i64 0, .slice none 0 0, .int .u64 0, .int .u64 0, .int .u64 0, .int .u64 0] 77)) := Bl.alloc' (Bl.alloc' (Bl.alloc' (Below.refl _ w) _) _) _
  have qs : w.heap.size + 2 < ((((w.alloc (.cells (List.toArray (.int .i64 9 :: .int .i64 0 :: .int .i64 W :: .int .i64 0 :: .int .i64 cap :: .int .i64 0 :: .int .i64 n :: .int .i64 0 :: .int .i64 0 :: .int .i64 0 :: .int .i64 0 :: .slice none 0 0 :: .int .i64 0 :: .int .i64 0 :: .int .i64 0 :: .int .i64 0 :: .slice none 0 0 :: .int .i64 0 :: .int .i64 0 :: .int .i64 0 :: .int .i64 0 :: .int .i64 0 :: .slice none 0 0 :: .int .i64 0 :: .int .i64 0 :: .int .i64 0 :: .int .i64 0 :: .int .i64 0 :: .int .i64 0 :: .slice none 0 0 :: .int .i64 0 :: .int .i64 0 :: .int .i64 0 :: .int .i64 0 :: .int .i64 0 :: .slice none 0 0 :: .int .i64 0 :: .int .i64 0 :: .int .i64 0 :: .slice none 0 0 :: .int .i64 0 :: .slice none 0 0 :: .bool false :: .int .i64 0 :: .int .i64 0 :: .int .i64 0 :: .slice none 0 0 :: .slice A n k :: .int .i64 0 :: .int .i64 0 :: .int .i64 0 :: .slice none 0 0 :: .int .i64 0 :: .int .i64 0 :: .int .i64 0 :: .int .i64 0 :: .slice none 0 0 :: [])) 56))).alloc (.cells #[.int .i64 10, .int .i64 qa, .int .i64 qb] 81)).alloc (.cells #[.int .i64 0, .int .i64 0, .int .i64 0, .int .i64 0, .int .i64 0, .int .i64 0, .slice none 0 0, .int .u64 0, .int .u64 0, .int .u64 0, .int .u64 0] 77)).heap.size := by simp
  go_enter Tryz.func14, Tryz.ntmps14
  go_upto_region 1 with (fail)
  generalize ((((w.alloc (.cells (List.toArray (.int .i64 9 :: .int .i64 0 :: .int .i64 W :: .int .i64 0 :: .int .i64 cap :: .int .i64 0 :: .int .i64 n :: .int .i64 0 :: .int .i64 0 :: .int .i64 0 :: .int .i64 0 :: .slice none 0 0 :: .int .i64 0 :: .int .i64 0 :: .int .i64 0 :: .int .i64 0 :: .slice none 0 0 :: .int .i64 0 :: .int .i64 0 :: .int .i64 0 :: .int .i64 0 :: .int .i64 0 :: .slice none 0 0 :: .int .i64 0 :: .int .i64 0 :: .int .i64 0 :: .int .i64 0 :: .int .i64 0 :: .int .i64 0 :: .slice none 0 0 :: .int .i64 0 :: .int .i64 0 :: .int .i64 0 :: .int .i64 0 :: .int .i64 0 :: .slice none 0 0 :: .int .i64 0 :: .int .i64 0 :: .int .i64 0 :: .slice none 0 0 :: .int .i64 0 :: .slice none 0 0 :: .bool false :: .int .i64 0 :: .int .i64 0 :: .int .i64 0 :: .slice none 0 0 :: .slice A n k :: .int .i64 0 :: .int .i64 0 :: .int .i64 0 :: .slice none 0 0 :: .int .i64 0 :: .int .i64 0 :: .int .i64 0 :: .int .i64 0 :: .slice none 0 0 :: [])) 56))).alloc (.cells #[.int .i64 10, .int .i64 qa, .int .i64 qb] 81)).alloc (.cells #[.int .i64 0, .int .i64 0, .int .i64 0, .int .i64 0, .int .i64 0, .int .i64 0, .slice none 0 0, .int .u64 0, .int .u64 0, .int .u64 0, .int .u64 0] 77)) = w0 at *
  have X0 := hide qX
  have Q0 := hide qQ
  have R0 := hide qR
  have B0 := hide qB
  clear qX qR qB qQ
  go_wp2_with (refine wpList_loadG (by rfl) 56 (.tmp 2) rfl w.heap.size 56 _ rfl X0.out Tryz.underlying56 rfl size56 ?_)
  refine (C39.out w0 B0.out).mono ?_
  rintro e w1 ⟨rfl, hb⟩
  have X1 := hide (X0.out.below hb X0.out.lt)
  have R1 := hide (R0.out.below hb R0.out.lt)
  have Q1 := hide (Q0.out.below hb Q0.out.lt)
  have B1 := hide (Bl.call' B0.out hb)
  have hs1 := hb.size
  clear hb X0 B0 R0 Q0
  have q0 : w1.cell? ⟨w.heap.size + 1, 0, none⟩ = some (.int .i64 10) := Q1.out.cell 0
  go_wp2_with (refine wpList_load_mid rfl 25 (.tmp 16) rfl w.heap.size 0 rfl [.int .i64 9, .int .i64 0, .int .i64 W, .int .i64 0, .int .i64 cap, .int .i64 0, .int .i64 n, .int .i64 0] _ (by simpa using World.rangeAt_of_block X1.out 0 8) Tryz.underlying25 rfl size25 ?_)
  refine (C52.out w1).mono ?_
  rintro e w2 ⟨rfl, hb⟩
  have X2 := hide (X1.out.below hb X1.out.lt)
  have R2 := hide (R1.out.below hb R1.out.lt)
  have B2 := hide (Bl.call' B1.out hb)
  have hs2 := hb.size
  clear hb X1 B1 R1 Q1 q0
  have Y3 := hide (Blk.new w2 77 #[.int .i64 0, .int .i64 0, .int .i64 0, .int .i64 0, .int .i64 0, .int .i64 0, .slice none 0 0, .int .u64 0, .int .u64 0, .int .u64 0, .int .u64 0])
  have X3 := hide (X2.out.alloc (.cells #[.int .i64 0, .int .i64 0, .int .i64 0, .int .i64 0, .int .i64 0, .int .i64 0, .slice none 0 0, .int .u64 0, .int .u64 0, .int .u64 0, .int .u64 0] 77))
  have R3 := hide (R2.out.alloc (.cells #[.int .i64 0, .int .i64 0, .int .i64 0, .int .i64 0, .int .i64 0, .int .i64 0, .slice none 0 0, .int .u64 0, .int .u64 0, .int .u64 0, .int .u64 0] 77))
  have B3 := hide (Bl.alloc' B2.out (.cells #[.int .i64 0, .int .i64 0, .int .i64 0, .int .i64 0, .int .i64 0, .int .i64 0, .slice none 0 0, .int .u64 0, .int .u64 0, .int .u64 0, .int .u64 0] 77))
  go_upto_region 7 with (fail)
  have hs3 : w2.heap.size < (w2.alloc (.cells #[.int .i64 0, .int .i64 0, .int .i64 0, .int .i64 0, .int .i64 0, .int .i64 0, .slice none 0 0, .int .u64 0, .int .u64 0, .int .u64 0, .int .u64 0] 77)).heap.size := by simp
  generalize hg7 : w2.heap.size = g7 at *
  generalize (w2.alloc (.cells #[.int .i64 0, .int .i64 0, .int .i64 0, .int .i64 0, .int .i64 0, .int .i64 0, .slice none 0 0, .int .u64 0, .int .u64 0, .int .u64 0, .int .u64 0] 77)) = w3 at *
  have hg71 : w.heap.size + 2 < g7 := by omega
  clear hg7 X2 R2 B2
  have x0 : w3.cell? ⟨w.heap.size, 0, none⟩ = some (.int .i64 9) := X3.out.cell 0
  go_wp2_with (refine wpList_load_mid rfl 48 (.tmp 99) rfl w.heap.size 47 rfl [.slice A n k] _ (by simpa using World.rangeAt_of_block X3.out 47 1) Tryz.underlying48 rfl size48 ?_)
  refine (C61.out w3 B3.out).mono ?_
  rintro e w4 ⟨A', k', rfl, hO', hb⟩
  have HO' := hide hO'
  have Y4 := hide (Y3.out.below hb Y3.out.lt)
  have R4 := hide (R3.out.below hb R3.out.lt)
  have B4 := hide (Bl.call' B3.out hb)
  have hs4 := hb.size
  clear hb X3 R3 B3 Y3 x0 hO'
  have y6 : w4.cell? ⟨g7, 6, none⟩ = some (.slice none 0 0) := Y4.out.cell 6
  have yf : w4.frozen? ⟨g7, 6, none⟩ = false := Y4.out.frozen 6
  have Y5 := hide ((Y4.out.set_ 6 (.slice A' n k')).cast (show _ = #[.int .i64 0, .int .i64 0, .int .i64 0, .int .i64 0, .int .i64 0, .int .i64 0, (.slice A' n k'), .int .u64 0, .int .u64 0, .int .u64 0, .int .u64 0] by kernel_rfl))
  have R5 := hide (R4.out.far (p := ⟨g7, 6, none⟩) (show w.heap.size + 2 ≠ g7 by omega) (.slice A' n k'))
  have B5 := hide (B4.out.setCell (p := ⟨g7, 6, none⟩) (show w.heap.size ≤ g7 by omega) (.slice A' n k'))
  have HO5 := hide (HO'.out.keep (w' := w4.setCell ⟨g7, 6, none⟩ (.slice A' n k')) (fun q hq => Below.heap_setCell w4 ⟨g7, 6, none⟩ _ q (by have := (HO'.out.lt q hq).1; show q ≠ g7; omega)))
  go_upto_region 39 with (fail)
  generalize (w4.setCell ⟨g7, 6, none⟩ (.slice A' n k')) = w5 at *
  clear Y4 R4 B4 HO' y6 yf
  go_wp2_with (first | (refine wpList_loadG (by rfl) 77 (.tmp 7) rfl g7 77 _ rfl Y5.out Tryz.underlying77 rfl size77 ?_) | (refine wpList_store_row rfl 77 (.tmp 4) (.tmp 161) rfl (w.heap.size + 2) #[.int .i64 0, .int .i64 0, .int .i64 0, .int .i64 0, .int .i64 0, .int .i64 0, .slice A' n k', .int .u64 0, .int .u64 0, .int .u64 0, .int .u64 0] rfl rfl 77 #[.int .i64 0, .int .i64 0, .int .i64 0, .int .i64 0, .int .i64 0, .int .i64 0, .slice none 0 0, .int .u64 0, .int .u64 0, .int .u64 0, .int .u64 0] R5.out size77 rfl (by simp [Value.oneCell']) ?_))
  refine bodyPost_ret (res77 rfl _ rfl (R5.out.row _)) rfl ?_
  have O9 := HO5.out.keep (w' := w5.setRow (w.heap.size + 2) #[.int .i64 0, .int .i64 0, .int .i64 0, .int .i64 0, .int .i64 0, .int .i64 0, .slice A' n k', .int .u64 0, .int .u64 0, .int .u64 0, .int .u64 0]) (fun q hq => setRow_other w5 (w.heap.size + 2) q _ (by have := (HO5.out.lt q hq).1; omega))
  exact ⟨A', k', rfl, by have := O9.mono (show w.heap.size ≤ w3.heap.size by omega); exact this, below_row B5.out (by omega) _⟩
end Go.Proofs.YtbageimconenlaaGreat
