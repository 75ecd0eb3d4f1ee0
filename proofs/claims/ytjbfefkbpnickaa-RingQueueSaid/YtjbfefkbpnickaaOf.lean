/- The reference's buffer of given elements: the contract. -/
import Derived.Test.YtjbfefkbpnickaaItems
namespace Go.Proofs.Ytjbfefkbpnickaa
open Go.RowKit
set_option linter.unusedVariables false
def RingEnd (C H : Nat) (ys : List (Int × Int)) (w : World) (e : Ending) (w' : World) : Prop :=
  ∃ A c, e = .returned (ringV C H ys.length A C c) ∧ w'.ownsRow w.heap.size 33 2 (.slice A C c) C (flat (cellsL C H ys)) ∧ Below w.heap.size w w'
set_option maxRecDepth 100000 in
set_option maxHeartbeats 800000 in
theorem of_any (C H : Nat) (xs : List (Int × Int)) (A : Option Addr) (n c B : Nat) (w : World) (h : Sl2 w B A n xs) (hB : B ≤ w.heap.size) (hC : 1 ≤ C ∧ C ≤ 65536) (hH : H < C) (hL : xs.length ≤ C) :
    Calls Try.prog 19 #[.int .i64 C, .int .i64 H, .slice A n c] w (RingEnd C H xs w) := by
  obtain ⟨i0, hi, hz0, hz1, hz2⟩ := info_parts info33
  have hln := h.1
  have HSL := hide (h.more hB)
  obtain ⟨hC1, hC2⟩ := hC
  have hC0 : ¬ ((C : Int) = 0) := by omega
  have hC0n : ¬ (C = 0) := by omega
  have hnC : n ≤ C := by omega
  have HL := hide hln
  clear h hln hL
  go_enter Try.func19, Try.ntmps19
  go_wp2_with (at_make; refine wpList_make_full _ rfl (.tmp 14) (.tmp 14) 22 rfl (w.heap.size + 1) 33 i0 (.agg #[.int .i64 0, .int .i64 0]) 2 Try.underlying22 hi hz0 hz1 .i64 .i64 C C C rfl rfl rfl rfl (by rw [hz2]; omega) (by simp only [maxLen]; omega) (by simp) ?_; intro w1 hown1 hg1; have hk := (Blk.new w 24 #[.int .i64 0, .int .i64 0, .int .i64 0, .slice none 0 0]).grown hg1 (by simp); have hs1 := hg1.size; have HK := hide hk; clear hk)
  have hb1 : Below w.heap.size w w1 := ((Below.refl _ _).alloc (Nat.le_refl _) _).grown hg1 (by simp) (by intro q hq; cases hq)
  have hs1' : w.heap.size + 1 ≤ w1.heap.size := by simpa using hs1
  have hown2 : w1.ownsRow (w.heap.size + 1) 33 2 (.slice (some ⟨w.heap.size + 1, 0, none⟩) C C) C (flat (cellsL C H (xs.take 0))) := by
    rw [made2] at hown1
    rw [List.take_zero, cellsL_nil]
    simpa using hown1
  have hrow := (hown2.lt (w.heap.size + 1) rfl).2
  have HB1 := hide hb1
  have HO1 := hide hown2
  clear hown1 hg1 hs1 hb1 hown2
  go_loopw [19] (fun i wr => ∃ j : Nat, j ≤ n ∧ i = .int .i64 j ∧ wr.ownsRow (w.heap.size + 1) 33 2 (.slice (some ⟨w.heap.size + 1, 0, none⟩) C C) C (flat (cellsL C H (xs.take j))) ∧ Blk wr w.heap.size 24 #[.int .i64 0, .int .i64 0, .int .i64 0, .slice none 0 0] ∧ Blk wr w1.heap.size 24 #[.int .i64 C, .int .i64 H, .int .i64 n, .slice (some ⟨w.heap.size + 1, 0, none⟩) C C] ∧ Below w.heap.size w wr) (fun i _ => n - (intOf i).toNat)
  case atStart => exact ⟨0, Nat.zero_le _, rfl, own_below HO1.out ((Below.refl _ _).alloc (Nat.le_refl _) _), HK.out.alloc _, Blk.new _ _ _, HB1.out.alloc HB1.out.size _⟩
  case round =>
    obtain ⟨j, hj, rfl, hown, hbz, hbr, hb⟩ := hrel
    have HO := hide hown
    have HZ := hide hbz
    have HR := hide hbr
    have HB := hide hb
    have hgs := hbr.lt
    clear hown hbz hb
    by_cases hlt : j < n
    · have hk : (H + j) % C < C := Nat.mod_lt _ (by omega)
      obtain ⟨hw1, hw2⟩ := at_fact (C := C) (H := H) (j := j) (by omega) (by omega) (by omega)
      obtain ⟨b, o, p, q, rfl, hbB, hp, hc1, hc2⟩ := (HSL.out.below HB.out).at_ hlt
      have HSET := hide (show (cellsL C H (xs.take j)).set ((H + j) % C) (p, q) = cellsL C H (xs.take (j + 1)) by
        have := push_back (C := C) (H := H) (xs := xs.take j) (p, q) hH (by have := HL.out; simp; omega)
        have hlen : (xs.take j).length = j := by have := HL.out; simp; omega
        rw [hlen] at this
        rw [this, take_snoc hp])
      generalize hK : (H + j) % C = k at *
      clear hp hK hbr
      go_upto_region 5 with (fail)
      have kx : Blk (wr.alloc (.cells #[.int .i64 p, .int .i64 q] 33)) wr.heap.size 33 #[.int .i64 p, .int .i64 q] := Blk.new _ _ _
      have kr2 : Blk (wr.alloc (.cells #[.int .i64 p, .int .i64 q] 33)) w1.heap.size 24 _ := HR.out.alloc _
      have kz2 : Blk (wr.alloc (.cells #[.int .i64 p, .int .i64 q] 33)) w.heap.size 24 _ := HZ.out.alloc _
      have ho2 : ((wr.alloc (.cells #[.int .i64 p, .int .i64 q] 33))).ownsRow (w.heap.size + 1) 33 2 _ _ _ := own_below HO.out ((Below.refl _ _).alloc (Nat.le_refl _) _)
      have hb2 : Below w.heap.size w (wr.alloc (.cells #[.int .i64 p, .int .i64 q] 33)) := HB.out.alloc HB.out.size _
      generalize (wr.alloc (.cells #[.int .i64 p, .int .i64 q] 33)) = wx at *
      obtain ⟨y0, y1, _, _⟩ := kx.two
      obtain ⟨_, _, _, g3, _, _, _, _⟩ := kr2.four
      obtain ⟨r0, r1, r2, r3⟩ := row_cells ho2 (List.getElem?_eq_getElem (l := cellsL C H (xs.take j)) (i := k) (by rw [cellsL_len]; exact hk))
      have KR2 := hide kr2
      have KZ2 := hide kz2
      have HO2 := hide ho2
      have HB2 := hide hb2
      have hx0 : w1.heap.size ≠ w.heap.size + 1 := by omega
      have hx1 : wr.heap.size ≠ w.heap.size + 1 := by omega
      have hx2 : w.heap.size ≠ w.heap.size + 1 := by omega
      clear kx kr2 kz2 ho2 hb2 hc1 hc2
      go_region_held3 (fun w' => w'.cell? ⟨w1.heap.size, 3, none⟩ = some (.slice (some ⟨w.heap.size + 1, 0, none⟩) C C) ∧ w'.cell? ⟨wr.heap.size, 0, none⟩ = some (.int .i64 p) ∧ w'.cell? ⟨wr.heap.size, 1, none⟩ = some (.int .i64 q)) (first | exact ⟨g3, y0, y1⟩ | exact ⟨cell_far2 hx0 _ _ _ _ _ g3, cell_far2 hx1 _ _ _ _ _ y0, cell_far2 hx1 _ _ _ _ _ y1⟩) (first | fail)
      all_goals
        have kr3 : Blk ((wx.setCell ⟨w.heap.size + 1, k * 2, none⟩ (.int .i64 p)).setCell ⟨w.heap.size + 1, k * 2 + 1, none⟩ (.int .i64 q)) w1.heap.size 24 _ := KR2.out.far2 hx0 _ _ _ _
        have kz3 : Blk ((wx.setCell ⟨w.heap.size + 1, k * 2, none⟩ (.int .i64 p)).setCell ⟨w.heap.size + 1, k * 2 + 1, none⟩ (.int .i64 q)) w.heap.size 24 _ := KZ2.out.far2 hx2 _ _ _ _
        have ho3 := stored2 HO2.out k (p, q)
        rw [HSET.out] at ho3
        dsimp only at ho3
        have hb3 : Below w.heap.size w ((wx.setCell ⟨w.heap.size + 1, k * 2, none⟩ (.int .i64 p)).setCell ⟨w.heap.size + 1, k * 2 + 1, none⟩ (.int .i64 q)) := below_far2 HB2.out (by omega) _ _ _ _
        have KR3 := hide kr3
        have KZ3 := hide kz3
        have HO3 := hide ho3
        have HB3 := hide hb3
        clear kr3 kz3 ho3 hb3 r0 r1 r2 r3 y0 y1 g3
        go_wp2
        go_roundw
        case rel => exact ⟨j + 1, by omega, by go_num, HO3.out, KZ3.out, KR3.out, HB3.out.drew⟩
        case measure => simp [intOf]; omega
    · have HT := hide (show xs.take j = xs from List.take_of_length_le (by have := HL.out; omega))
      obtain ⟨g0, g1, g2, g3, f0, f1, f2, f3⟩ := hbr.four
      obtain ⟨e0, e1, e2, e3, d0, d1, d2, d3⟩ := HZ.out.four
      clear hbr
      go_wp2
      have ho := HO.out
      rw [HT.out] at ho
      refine bodyPost_ret (res1 rfl _ rfl (HZ.out.store4 _ _ _ _)) rfl ?_
      exact ⟨_, _, by unfold ringV; rw [HL.out], own_more (own_far4 ho (by omega) _ _ _ _) (by omega), below_far4 HB.out (Nat.le_refl _) _ _ _ _⟩
end Go.Proofs.Ytjbfefkbpnickaa
