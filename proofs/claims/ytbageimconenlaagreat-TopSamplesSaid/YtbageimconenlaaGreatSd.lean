/- Several chains made: the contract. -/
import Derived.Test.YtbageimconenlaaGreatSc
namespace Go.Proofs.YtbageimconenlaaGreat
open Go.RowKit
set_option linter.unusedVariables false
def ch0 : Ch := ⟨0, 0, []⟩
set_option maxRecDepth 100000 in
set_option maxHeartbeats 4000000 in
theorem snew_any (n : Nat) (W cap : Int) (w : World) (hn1 : 1 ≤ n) (hn2 : n ≤ 16) (h1 : 1 ≤ W) (h2 : W ≤ 1048576) (h3 : 1 ≤ cap) (h4 : cap ≤ 64) :
    Calls Tryz.prog 36 #[.int .i64 n, .int .i64 W, .int .i64 cap] w (SAddE W cap (List.replicate n ch0) w) := by
  obtain ⟨i0, hi0, hz0, hz1, hz2⟩ := info_parts info186
  have C92 := hide (fun (w1 : World) => cnew_ok W cap w1 h1 h2 h3 h4)
  unfold RetB at C92
  have d1 : decide ((n : Int) < 1) = false := by simp; omega
  have d2 : decide ((16 : Int) < (n : Int)) = false := by simp; omega
  have qR : Blk ((w.alloc (.cells #[.slice none 0 0] 48)).alloc (.cells #[.slice none 0 0] 48)) w.heap.size 48 #[.slice none 0 0] := (Blk.new _ _ _).alloc _
  have qG : Blk ((w.alloc (.cells #[.slice none 0 0] 48)).alloc (.cells #[.slice none 0 0] 48)) (w.heap.size + 1) 48 #[.slice none 0 0] := Blk.new_at (by simp) _ _
  have qB : Below w.heap.size w ((w.alloc (.cells #[.slice none 0 0] 48)).alloc (.cells #[.slice none 0 0] 48)) := Bl.alloc' (Bl.alloc' (Below.refl _ w) _) _
  clear h1 h2 h3 h4
  go_enter Tryz.func36, Tryz.ntmps36
  go_upto_region 4 with (fail)
  generalize ((w.alloc (.cells #[.slice none 0 0] 48)).alloc (.cells #[.slice none 0 0] 48)) = wB at *
  have R0 := hide qR
  have G0 := hide qG
  have B0 := hide qB
  have hs0 := qG.lt
  clear qR qG qB d1 d2
  generalize hgo : w.heap.size + 1 = gO at *
  have hgo1 : w.heap.size + 1 ≤ gO ∧ gO ≤ w.heap.size + 1 := by omega
  clear hgo
  go_wp2
  go_loopw [19] (fun i wr => ∃ (j : Nat) (dn : List (Ch × Option Addr × Nat)) (A1 : Option Addr) (k1 : Nat), j ≤ n ∧ i = .int .i64 j ∧ dn.map (·.1) = List.replicate j ch0 ∧ Blk wr gO 48 #[.slice A1 j k1] ∧ OCs wr wB.heap.size W cap A1 j k1 dn ∧ Keep gO gO wB wr) (fun i _ => n - (intOf i).toNat)
  case atStart => exact ⟨0, [], none, 0, Nat.zero_le _, rfl, rfl, G0.out, OCs.nil_ _ _ _ _, Keep.refl _ _ _⟩
  case round =>
    obtain ⟨j, dn, A1, k1, hj, rfl, hdn, hG, hO, hK⟩ := hrel
    have G3 := hide hG
    have O3 := hide hO
    have K3 := hide hK
    have HDN := hide hdn
    have hsz := hK.size
    clear hG hO hK hdn
    by_cases hlt : j < n
    · have hjlt : (j : Int) < (n : Int) := by omega
      go_wp2_with (fail)
      refine (C92.out wr).mono ?_
      rintro e w4 ⟨rfl, hb4⟩
      have B4 := hide (Bl.alloc' hb4 (.cells #[.int .i64 W, .int .i64 cap, .int .i64 0, .int .i64 0, .slice none 0 0] 186))
      have V4 := hide (Blk.new w4 186 #[.int .i64 W, .int .i64 cap, .int .i64 0, .int .i64 0, .slice none 0 0])
      have hs4 := hb4.size
      clear hb4
      go_upto_region 7 with (fail)
      generalize (w4.alloc (.cells #[.int .i64 W, .int .i64 cap, .int .i64 0, .int .i64 0, .slice none 0 0] 186)) = w5 at *
      have G5 := hide (G3.out.below B4.out G3.out.lt)
      have O5 := hide (O3.out.keep (fun q _ hq => B4.out.block q hq))
      have K5 : Hid (Keep gO gO wB w5) := hide (K3.out.trans ⟨B4.out.os, B4.out.tape, B4.out.output, B4.out.size, fun q hq _ _ => B4.out.block q hq⟩)
      have hs5 := B4.out.size
      have hl5 : gO < w5.heap.size := by omega
      have oc5 : w5.cell? ⟨gO, 0, none⟩ = some (.slice A1 j k1) := G5.out.cell 0
      have hv4 := V4.out.lt
      have hneG : some gO ≠ (Value.slice A1 j k1).ownBlock := fun e => by have := (O3.out.row.lt gO e.symm).1; omega
      have HNEG := hide hneG
      clear hneG
      go_upto_region 10 with (first | (refine wpList_load186 rfl (.tmp 9) rfl w4.heap.size 186 rfl V4.out ?_) | (at_builtin; refine wpList_appendKa _ rfl (.tmp 32) (.tmp 34) 46 rfl wB.heap.size 186 i0 (.agg #[.int .i64 0, .int .i64 0, .int .i64 0, .int .i64 0, .slice none 0 0]) 5 56 Tryz.underlying46 hi0 hz0 hz1 hz2 rfl (by decide) (.slice A1 j k1) j (ck W cap dn) rfl (O5.out.row.alloc _) _ (some ⟨w5.heap.size, 0, none⟩) 1 1 [.int .i64 W, .int .i64 cap, .int .i64 0, .int .i64 0, .slice none 0 0] rfl (SlK.one (l := [.int .i64 W, .int .i64 cap, .int .i64 0, .int .i64 0, .slice none 0 0]) rfl rfl) (by intro u hu; simp at hu; rcases hu with rfl | rfl | rfl | rfl | rfl <;> rfl) (j + 1) rfl (by simp only [maxLen]; omega) (by omega) (by simp; omega) ?_; intro A6 k6 w6 hown6 hg6 hat6; have oc : w6.cell? ⟨gO, 0, none⟩ = some (.slice A1 j k1) := (((Blk.alloc G5.out _).grown hg6 HNEG.out).cell 0); have of : w6.frozen? ⟨gO, 0, none⟩ = false := (((Blk.alloc G5.out _).grown hg6 HNEG.out).frozen 0)))
      have O6 := hide (OCs.snoc (p := (ch0, none, 0)) (O5.out.keep (w' := w5.alloc (.cells #[.int .i64 W, .int .i64 cap, .int .i64 0, .int .i64 0, .slice none 0 0] 186)) (fun q _ hq => Below.heap_alloc w5 _ q hq)) (OwnK.nil_ _ _ _ _) (by intro q h1 h2; cases h1) hown6 hg6 (by simpa using hat6))
      have G6 := hide ((Blk.alloc G5.out (.cells #[.int .i64 W, .int .i64 cap, .int .i64 0, .int .i64 0, .slice none 0 0] 186)).grown hg6 HNEG.out)
      have K6 := hide ((K5.out.alloc (.cells #[.int .i64 W, .int .i64 cap, .int .i64 0, .int .i64 0, .slice none 0 0] 186)).grown hg6 (fun q hq => (O3.out.row.lt q hq).1))
      have G7 := hide (show Blk (w6.setCell ⟨gO, 0, none⟩ (.slice A6 (j + 1) k6)) gO 48 #[.slice A6 (j + 1) k6] by simpa using G6.out.set_ 0 (.slice A6 (j + 1) k6))
      have K7 := hide (K6.out.set_tb 0 (.slice A6 (j + 1) k6))
      have O7 := hide (O6.out.keep (w' := w6.setCell ⟨gO, 0, none⟩ (.slice A6 (j + 1) k6)) (fun q h1 _ => Below.heap_setCell w6 ⟨gO, 0, none⟩ _ q (by simp; omega)))
      clear hown6 hg6 hat6 oc of G6 K6 O6 G5 O5 K5 oc5
      generalize (w6.setCell ⟨gO, 0, none⟩ (.slice A6 (j + 1) k6)) = w7 at *
      go_wp2
      go_roundw
      case rel => exact ⟨j + 1, dn ++ [(ch0, none, 0)], A6, k6, by omega, by first | rfl | go_num, by rw [List.map_append, HDN.out, List.replicate_succ']; rfl, G7.out, O7.out, K7.out⟩
      case measure => simp [intOf]; omega
    · have hje : j = n := by omega
      subst hje
      have hge : ¬ (j : Int) < (j : Int) := by omega
      have R4 := hide (K3.out.blk R0.out (by omega) (by omega))
      have B4 := hide (K3.out.below B0.out (by omega) (by omega) (by omega))
      go_wp2_with (first | (refine wpList_load48 rfl (.tmp 8) rfl gO 48 rfl G3.out ?_) | (refine wpList_store_row rfl 48 (.tmp 6) (.tmp 38) rfl w.heap.size #[.slice A1 j k1] rfl rfl 48 #[.slice none 0 0] R4.out size48 rfl (by simp [Value.oneCell']) ?_))
      refine bodyPost_ret (res48 rfl _ rfl (R4.out.row _)) rfl ?_
      have O9 := O3.out.keep (w' := wr.setRow w.heap.size #[.slice A1 j k1]) (fun q h1 _ => setRow_other wr w.heap.size q _ (by omega))
      exact ⟨⟨_, rfl, A1, k1, dn, by rw [List.length_replicate], HDN.out, by rw [List.length_replicate]; exact O9.mono (by omega)⟩, below_row B4.out (Nat.le_refl _) _⟩
end Go.Proofs.YtbageimconenlaaGreat
