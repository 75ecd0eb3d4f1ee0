/- The elements of a buffer, as package ring lists them: the contracts. -/
import Derived.Test.YtjbfefkbpnickaaItems
namespace Go.Proofs.Ytjbfefkbpnickaa
open Go.RowKit
set_option linter.unusedVariables false
set_option maxRecDepth 100000 in
set_option maxHeartbeats 800000 in
theorem items_in (C H : Nat) (xs : List (Int × Int)) (A : Option Addr) (c B : Nat) (w : World) (h : Sl2 w B A C (cellsL C H xs)) (hB : B ≤ w.heap.size) (hr : Rg C H xs.length (cellsL C H xs) C H xs) :
    Calls Try.prog 31 #[ringV C H xs.length A C c] w (ListEnd xs w) := by
  obtain ⟨i0, hi0, hz0, hz1, hz2⟩ := info_parts info33
  have hC1 := hr.one
  have hC2 := hr.max
  have hH := hr.hd
  have hL := hr.fits
  have HSL := hide (h.more hB)
  generalize hl : xs.length = L at *
  have HL := hide hl
  clear hr h hl
  unfold ringV
  have hb1 : Below w.heap.size w (w.alloc (.cells #[.int .i64 C, .int .i64 H, .int .i64 L, .slice A C c] 24)) := (Below.refl _ _).alloc (Nat.le_refl _) _
  have HB1 := hide hb1
  have KR1 := hide (Blk.new w 24 #[.int .i64 C, .int .i64 H, .int .i64 L, .slice A C c])
  clear hb1
  go_enter Try.func31, Try.ntmps31
  go_wp2
  go_loopw [3, 4] (fun v i wr => ∃ (j : Nat) (A1 : Option Addr) (c1 : Nat), j ≤ L ∧ i = .int .i64 j ∧ v = .slice A1 j c1 ∧ wr.ownsRow (w.heap.size + 1) 33 2 (.slice A1 j c1) j (flat (xs.take j)) ∧ Blk wr w.heap.size 24 #[.int .i64 C, .int .i64 H, .int .i64 L, .slice A C c] ∧ Below w.heap.size w wr) (fun _ i _ => L - (intOf i).toNat)
  case atStart => exact ⟨0, none, 0, Nat.zero_le _, rfl, rfl, own_nil2 _ _ _, KR1.out, HB1.out⟩
  case round =>
    obtain ⟨j, A1, c1, hj, rfl, rfl, hown, hblk, hb⟩ := hrel
    have HO := hide hown
    have HBK := hide hblk
    have HB := hide hb
    have hgs := hblk.lt
    obtain ⟨g0, g1, g2, g3, _, _, _, _⟩ := hblk.four
    clear hown hblk hb
    by_cases hlt : j < L
    · have hk : (H + j) % C < C := Nat.mod_lt _ (by omega)
      have hcell := cellsL_elem (xs := xs) (i := j) hH (by omega)
      have C29 := hide (fun w0 => at_nat C H L A C c j w0 ⟨hC1, hC2⟩ hH (by omega))
      unfold ringV at C29
      generalize hK : (H + j) % C = k at *
      obtain ⟨b, o, p, q, rfl, hbB, hp, hc1, hc2⟩ := (HSL.out.below HB.out).at_ hk
      have hbs : b < wr.heap.size := by omega
      have hpq : xs[j]? = some (p, q) := by
        rw [hp] at hcell
        injection hcell with hcell
        have hjl : j < xs.length := by have := HL.out; omega
        rw [hcell, List.getD_eq_getElem?_getD, List.getElem?_eq_getElem hjl]; rfl
      have HT := hide (take_snoc hpq)
      clear hcell hp hpq hK
      have hnr : ∀ t, t < w.heap.size + 1 → some t ≠ (Value.slice A1 j c1).ownBlock := fun t ht he => by have := (HO.out.lt t he.symm).1; omega
      go_wp2_with (fail)
      go_region_held3 (fun w' => w'.cell? ⟨w.heap.size, 0, none⟩ = some (.int .i64 C) ∧ w'.cell? ⟨w.heap.size, 1, none⟩ = some (.int .i64 H) ∧ w'.cell? ⟨w.heap.size, 2, none⟩ = some (.int .i64 L) ∧ w'.cell? ⟨w.heap.size, 3, none⟩ = some (.slice (some ⟨b, o, none⟩) C c) ∧ w'.cell? ⟨b, o + k * 2, none⟩ = some (.int .i64 p) ∧ w'.cell? ⟨b, o + k * 2 + 1, none⟩ = some (.int .i64 q)) (first | exact ⟨g0, g1, g2, g3, hc1, hc2⟩ | exact ⟨e0, e1, e2, e3, ec, ed⟩ | exact ⟨cell_alloc e0 _, cell_alloc e1 _, cell_alloc e2 _, cell_alloc e3 _, cell_alloc ec _, cell_alloc ed _⟩ | exact ⟨cell_grown hgrow (cell_alloc e0 _) (hnr _ (by omega)), cell_grown hgrow (cell_alloc e1 _) (hnr _ (by omega)), cell_grown hgrow (cell_alloc e2 _) (hnr _ (by omega)), cell_grown hgrow (cell_alloc e3 _) (hnr _ (by omega)), cell_grown hgrow (cell_alloc ec _) (hnr _ (by omega)), cell_grown hgrow (cell_alloc ed _) (hnr _ (by omega))⟩) (first | (go_at_call 29; refine (C29.out _).mono ?_; rintro e w2 ⟨rfl, hb2⟩; have hb3 : Below wr.heap.size wr w2 := below_undrew hb2; have hs3 := hb3.size; have kr2 := HBK.out.below hb3 hgs; have ho2 := own_below HO.out hb3; have hb4 := HB.out.trans (hb3.mono HB.out.size); obtain ⟨e0, e1, e2, e3, _, _, _, _⟩ := kr2.four; have ec := (below_cell hb3 hbs).trans hc1; have ed := (below_cell hb3 hbs).trans hc2; have KR2 := hide kr2; have HO2 := hide ho2; have HB4 := hide hb4; clear kr2 ho2 hb2 hb3 hb4) | (refine step_append_sl2 _ (by rfl) _ _ _ (by rfl) (w.heap.size + 1) 33 i0 _ 16 Try.underlying22 hi0 hz0 hz1 hz2 rfl (.slice A1 j c1) j (flat (xs.take j)) (by rfl) (HO2.out.alloc _) (w2.heap.size + 1) (some ⟨w2.heap.size, 0, none⟩) 1 1 [(p, q)] (by rfl) (Sl2.one w2 (p, q) 33) (by simp only [maxLen]; omega) (by omega) (by simp; omega) ?_; intro A2 c2 w3 hown3 hgrow hat))
      have hbk2 : Blk w3 w.heap.size 24 #[.int .i64 C, .int .i64 H, .int .i64 L, .slice (some ⟨b, o, none⟩) C c] := (KR2.out.alloc _).grown hgrow (hnr _ (by omega))
      have hb2 : Below w.heap.size w w3 := (HB4.out.alloc (by omega) _).grown hgrow (by simp; omega) (fun t ht => by have := (HO.out.lt t ht).1; omega)
      have hown4 : w3.ownsRow (w.heap.size + 1) 33 2 (.slice A2 (j + 1) c2) (j + 1) (flat (xs.take (j + 1))) := by rw [HT.out, flat_append]; exact hown3
      have HBK3 := hide hbk2
      have HB3 := hide hb2
      have HO3 := hide hown4
      clear hbk2 hb2 hown3 hown4 hgrow hat
      go_wp2
      go_roundw
      case rel => exact ⟨j + 1, A2, c2, by omega, by go_num, rfl, HO3.out, HBK3.out, HB3.out⟩
      case measure => simp [intOf]; omega
    · have HT := hide (show xs.take j = xs from List.take_of_length_le (by have := HL.out; omega))
      obtain rfl : j = L := by omega
      go_wp2
      go_ret
      have ho := HO.out
      rw [HT.out] at ho
      exact ⟨A1, c1, by rw [HL.out]; rfl, by rw [HL.out]; exact own_more ho (by omega), HB.out⟩
def NilEnd (w : World) (e : Ending) (w' : World) : Prop := e = .returned (.slice none 0 0) ∧ Below w.heap.size w w'
set_option maxRecDepth 100000 in
theorem ritems_bad (cap head len : Int) (A : Option Addr) (n c B : Nat) (l : List (Int × Int)) (w : World) (h : Sl2 w B A n l) (hB : B ≤ w.heap.size) (hv : ¬ VOk cap head len l) :
    Calls Try.prog 18 #[ringV cap head len A n c] w (NilEnd w) := by
  have CV := hide (fun w1 (hb : Below w.heap.size w w1) => rvalidate_any cap head len A n c w.heap.size l w1 ((h.more hB).below hb) hb.size)
  unfold VEnd at CV
  rw [vV_no hv] at CV
  clear h hv
  unfold ringV at CV
  unfold ringV
  go_enter Try.func18, Try.ntmps18
  go_wp2_with (fail)
  have hb0 : Below w.heap.size w (w.alloc (.cells #[.int .i64 cap, .int .i64 head, .int .i64 len, .slice A n c] 24)) := (Below.refl _ _).alloc (Nat.le_refl _) _
  refine (CV.out _ hb0).mono ?_
  rintro e w1 ⟨rfl, hb1⟩
  have hb01 := hb0.trans (hb1.mono hb0.size)
  clear hb0 hb1
  go_wp2
  go_ret
  exact ⟨rfl, hb01⟩
set_option maxRecDepth 100000 in
theorem items_bad (cap head len : Int) (A : Option Addr) (n c B : Nat) (l : List (Int × Int)) (w : World) (h : Sl2 w B A n l) (hB : B ≤ w.heap.size) (hv : ¬ VOk cap head len l) :
    Calls Try.prog 24 #[ringV cap head len A n c] w (NilEnd w) := by
  have CV := hide (fun w1 (hb : Below w.heap.size w w1) => validate_any cap head len A n c w.heap.size l w1 ((h.more hB).below hb) hb.size)
  unfold VEnd at CV
  rw [vV_no hv] at CV
  clear h hv
  unfold ringV at CV
  unfold ringV
  go_enter Try.func24, Try.ntmps24
  go_wp2_with (fail)
  have hb0 : Below w.heap.size w (w.alloc (.cells #[.int .i64 cap, .int .i64 head, .int .i64 len, .slice A n c] 24)) := (Below.refl _ _).alloc (Nat.le_refl _) _
  refine (CV.out _ hb0).mono ?_
  rintro e w1 ⟨rfl, hb1⟩
  have hb01 := hb0.trans (hb1.mono hb0.size)
  clear hb0 hb1
  go_wp2
  go_ret
  exact ⟨rfl, hb01⟩
set_option maxRecDepth 100000 in
theorem items_ok (C H : Nat) (xs : List (Int × Int)) (A : Option Addr) (c B : Nat) (w : World) (h : Sl2 w B A C (cellsL C H xs)) (hB : B ≤ w.heap.size) (hr : Rg C H xs.length (cellsL C H xs) C H xs) :
    Calls Try.prog 24 #[ringV C H xs.length A C c] w (ListEnd xs w) := by
  have CV := hide (fun w1 (hb : Below w.heap.size w w1) => validate_any C H xs.length A C c w.heap.size (cellsL C H xs) w1 ((h.more hB).below hb) hb.size)
  unfold VEnd at CV
  rw [vV_yes hr.ok] at CV
  have CI := hide (fun w1 (hb : Below w.heap.size w w1) => items_in C H xs A c w.heap.size w1 ((h.more hB).below hb) hb.size hr)
  clear h hr
  generalize xs.length = L at *
  unfold ringV at CV CI
  unfold ringV
  go_enter Try.func24, Try.ntmps24
  go_wp2_with (fail)
  have hb0 : Below w.heap.size w (w.alloc (.cells #[.int .i64 C, .int .i64 H, .int .i64 L, .slice A C c] 24)) := (Below.refl _ _).alloc (Nat.le_refl _) _
  refine (CV.out _ hb0).mono ?_
  rintro e w1 ⟨rfl, hb1⟩
  have k1 := (Blk.new w 24 #[.int .i64 C, .int .i64 H, .int .i64 L, .slice A C c]).below hb1 (by simp)
  obtain ⟨g0, g1, g2, g3, _, _, _, _⟩ := k1.four
  have hb01 := hb0.trans (hb1.mono hb0.size)
  have HB := hide hb01
  clear hb0 hb1 k1 hb01
  go_wp2_with (fail)
  refine (CI.out _ HB.out).mono ?_
  rintro e w2 ⟨A2, c2, rfl, hown, hb2⟩
  have hb02 := HB.out.trans (hb2.mono HB.out.size)
  have hown2 := own_more hown HB.out.size
  have HB2 := hide hb02
  have HO2 := hide hown2
  clear hb2 hb02 hown hown2
  go_wp2
  go_ret
  exact ⟨A2, c2, rfl, HO2.out, HB2.out⟩
end Go.Proofs.Ytjbfefkbpnickaa
