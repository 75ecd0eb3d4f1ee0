/- The elements of a buffer: the contracts of the lists of them. -/
import Derived.Test.YtjbfefkbpnickaaNew
import Derived.Deep.Cut
import Derived.Deep.RegionHeld3
namespace Go.Proofs.Ytjbfefkbpnickaa
open Go.RowKit
set_option linter.unusedVariables false
section
variable {P : Program} (w : World)
/-- append of a list of items, at a step of a region that draws -/
theorem step_append_sl2 {ops : Array Oper} {o : Oper} {a : Act} {K : Act → World → Prop} {Q : Exit → Act → World → Prop} {E : Prop} (hgd : o.guard = none) (s x : Operand) (t : TypeId)
    (ho : o.op = .call { callee := .builtin .append, args := #[s, x], argTypes := #[t, t] })
    (base : Nat) (e : TypeId) (i : TypeInfo) (z : Value) (bytes : Nat) (ht : P.underlying t = some (.slice e)) (hi : P.info? e = some i) (hz : i.zero = some z)
    (hsize : i.size = 2) (hby : i.bytes = bytes) (hzs : z.cells.size = 2)
    (v : Value) (n : Nat) (xs : List Value) (hs : a.eval s = v) (hown : w.ownsRow base e 2 v n xs)
    (B : Nat) (A : Option Addr) (m c : Nat) (news : List (Int × Int)) (hx : a.eval x = .slice A m c) (hr : Sl2 w B A m news)
    (h63 : n + m ≤ maxLen) (hbytes : (n + m) * bytes ≤ 140737488355328) (hbase : base ≤ w.heap.size)
    (h : ∀ A' c' w', w'.ownsRow base e 2 (.slice A' (n + m) c') (n + m) (xs ++ flat news) → w.grownBy w' v.ownBlock → ((Value.slice A' (n + m) c').ownBlock = v.ownBlock ∨ (Value.slice A' (n + m) c').ownBlock = some w.heap.size) → K (a.put o.dst (.slice A' (n + m) c')) w') :
    if Region.wanted o (yielded ops a.tmps) = true then Oper.wp P o a w K Q else E := by
  have hw : Region.wanted o (yielded ops a.tmps) = true := by simp [Region.wanted, hgd]
  rw [if_pos hw]
  obtain ⟨v', w', hrun, h2, h3, h4⟩ := run_append_sl2 (P := P) w base t o.type e i z bytes ht hi hz hsize hby hzs v n xs hown B A m c news hr h63 hbytes hbase
  obtain ⟨A', c', rfl, _, _⟩ := own_slice2 h2
  unfold Oper.wp execOp
  simp only [ho, resolve, invoke, builtin, Sem.run_bind, Sem.run_pure, Result.andThen_ok, List.map_toArray, List.map_cons, List.map_nil, hs, hx, hrun]
  exact h A' c' w' h2 h3 h4
end
theorem Sl2.drew {w : World} {B n : Nat} {A : Option Addr} {l : List (Int × Int)} (h : Sl2 w B A n l) : Sl2 w.drew B A n l := h
theorem cell_alloc {w : World} {b o : Nat} {v : Value} (hc : w.cell? ⟨b, o, none⟩ = some v) (ob : Obj) : (w.alloc ob).cell? ⟨b, o, none⟩ = some v :=
  (below_cell ((Below.refl w.heap.size w).alloc (Nat.le_refl _) ob) (cell_lt hc)).trans hc
theorem cell_grown {w w2 : World} {row : Option Nat} (hg : w.grownBy w2 row) {b o : Nat} {v : Value} (hc : w.cell? ⟨b, o, none⟩ = some v) (hne : some b ≠ row) : w2.cell? ⟨b, o, none⟩ = some v :=
  (hg.cell_far ⟨b, o, none⟩ (cell_lt hc) hne).trans hc
def ListEnd (xs : List (Int × Int)) (w : World) (e : Ending) (w' : World) : Prop :=
  ∃ A c, e = .returned (.slice A xs.length c) ∧ w'.ownsRow w.heap.size 33 2 (.slice A xs.length c) xs.length (flat xs) ∧ Below w.heap.size w w'
set_option maxRecDepth 100000 in
set_option maxHeartbeats 800000 in
theorem ritems_ok (C H : Nat) (xs : List (Int × Int)) (A : Option Addr) (c B : Nat) (w : World) (h : Sl2 w B A C (cellsL C H xs)) (hB : B ≤ w.heap.size) (hr : Rg C H xs.length (cellsL C H xs) C H xs) :
    Calls Try.prog 18 #[ringV C H xs.length A C c] w (ListEnd xs w) := by
  obtain ⟨i0, hi0, hz0, hz1, hz2⟩ := info_parts info33
  have C17 := hide (fun w1 (hb : Below w.heap.size w w1) => rvalidate_any C H xs.length A C c w.heap.size (cellsL C H xs) w1 ((h.more hB).below hb) hb.size)
  unfold VEnd at C17
  rw [vV_yes hr.ok] at C17
  have hC1 := hr.one
  have hC2 := hr.max
  have hH := hr.hd
  have hL := hr.fits
  have hC0 : ¬ ((C : Int) = 0) := by omega
  have hC0n : ¬ (C = 0) := by omega
  have HSL := hide (h.more hB)
  generalize hl : xs.length = L at *
  have HL := hide hl
  clear hr h hl
  unfold ringV at C17
  unfold ringV
  go_enter Try.func18, Try.ntmps18
  go_wp2_with (fail)
  refine (C17.out _ ((Below.refl _ _).alloc (Nat.le_refl _) _)).mono ?_
  rintro e w1 ⟨rfl, hb1⟩
  have kr1 := (Blk.new w 24 #[.int .i64 C, .int .i64 H, .int .i64 L, .slice A C c]).below hb1 (by simp)
  have hb01 := ((Below.refl w.heap.size w).alloc (Nat.le_refl _) _).trans (hb1.mono (by simp))
  have hs1 : w.heap.size + 1 ≤ w1.heap.size := by have := hb1.size; simpa using this
  have HB1 := hide hb01
  have KR1 := hide kr1
  have d2 : decide ((0 : Int) < (L : Int)) = decide (0 < L) := by simp
  clear hb1 kr1 hb01
  go_wp2
  go_loopw [3, 4] (fun v i wr => ∃ (j : Nat) (A1 : Option Addr) (c1 : Nat), j ≤ L ∧ i = .int .i64 j ∧ v = .slice A1 j c1 ∧ wr.ownsRow (w.heap.size + 1) 33 2 (.slice A1 j c1) j (flat (xs.take j)) ∧ Blk wr w.heap.size 24 #[.int .i64 C, .int .i64 H, .int .i64 L, .slice A C c] ∧ Below w.heap.size w wr) (fun _ i _ => L - (intOf i).toNat)
  case atStart => exact ⟨0, none, 0, Nat.zero_le _, rfl, rfl, own_nil2 _ _ _, KR1.out, HB1.out⟩
  case round =>
    obtain ⟨j, A1, c1, hj, rfl, rfl, hown, hblk, hb⟩ := hrel
    have HO := hide hown
    have HBK := hide hblk
    have HB := hide hb
    have hgs := hblk.lt
    obtain ⟨g0, g1, g2, g3, _, _, _, _⟩ := hblk.four
    clear hown hblk hb
    by_cases hlt : j < L
    · have hk : (H + j) % C < C := Nat.mod_lt _ (by omega)
      have hcell := cellsL_elem (xs := xs) (i := j) hH (by omega)
      obtain ⟨hw1, hw2⟩ := at_fact (C := C) (H := H) (j := j) (by omega) (by omega) (by omega)
      generalize hK : (H + j) % C = k at *
      obtain ⟨b, o, p, q, rfl, hbB, hp, hc1, hc2⟩ := (HSL.out.below HB.out).at_ hk
      have hpq : xs[j]? = some (p, q) := by
        rw [hp] at hcell
        injection hcell with hcell
        have hjl : j < xs.length := by have := HL.out; omega
        rw [hcell, List.getD_eq_getElem?_getD, List.getElem?_eq_getElem hjl]; rfl
      have HT := hide (take_snoc hpq)
      clear hcell hp hpq hK
      have hnr : ∀ t, t < w.heap.size + 1 → some t ≠ (Value.slice A1 j c1).ownBlock := fun t ht he => by have := (HO.out.lt t he.symm).1; omega
      go_wp2_with (fail)
      go_region_held3 (fun w' => w'.cell? ⟨w.heap.size, 0, none⟩ = some (.int .i64 C) ∧ w'.cell? ⟨w.heap.size, 1, none⟩ = some (.int .i64 H) ∧ w'.cell? ⟨w.heap.size, 3, none⟩ = some (.slice (some ⟨b, o, none⟩) C c) ∧ w'.cell? ⟨b, o + k * 2, none⟩ = some (.int .i64 p) ∧ w'.cell? ⟨b, o + k * 2 + 1, none⟩ = some (.int .i64 q)) (first | exact ⟨g0, g1, g3, hc1, hc2⟩ | exact ⟨cell_alloc g0 _, cell_alloc g1 _, cell_alloc g3 _, cell_alloc hc1 _, cell_alloc hc2 _⟩ | exact ⟨cell_grown hgrow (cell_alloc g0 _) (hnr _ (by omega)), cell_grown hgrow (cell_alloc g1 _) (hnr _ (by omega)), cell_grown hgrow (cell_alloc g3 _) (hnr _ (by omega)), cell_grown hgrow (cell_alloc hc1 _) (hnr _ (by omega)), cell_grown hgrow (cell_alloc hc2 _) (hnr _ (by omega))⟩) ((refine step_append_sl2 _ (by rfl) _ _ _ (by rfl) (w.heap.size + 1) 33 i0 _ 16 Try.underlying22 hi0 hz0 hz1 hz2 rfl (.slice A1 j c1) j (flat (xs.take j)) (by rfl) ((HO.out.alloc _).drew) (wr.heap.size + 1) (some ⟨wr.heap.size, 0, none⟩) 1 1 [(p, q)] (by rfl) (Sl2.one wr (p, q) 33).drew (by simp only [maxLen]; omega) (by omega) (by simp; omega) ?_; intro A2 c2 w2 hown2 hgrow hat))
      have hbk2 : Blk w2 w.heap.size 24 #[.int .i64 C, .int .i64 H, .int .i64 L, .slice (some ⟨b, o, none⟩) C c] := ((HBK.out.alloc _).drew).grown hgrow (hnr _ (by omega))
      have hb2 : Below w.heap.size w w2 := ((HB.out.alloc (by omega) _).drew).grown hgrow (by simp; omega) (fun t ht => by have := (HO.out.lt t ht).1; omega)
      have hown3 : w2.ownsRow (w.heap.size + 1) 33 2 (.slice A2 (j + 1) c2) (j + 1) (flat (xs.take (j + 1))) := by rw [HT.out, flat_append]; exact hown2
      have HBK2 := hide hbk2
      have HB2 := hide hb2
      have HO2 := hide hown3
      clear hbk2 hb2 hown3 hown2 hgrow hat
      go_wp2
      go_roundw
      case rel => exact ⟨j + 1, A2, c2, by omega, by go_num, rfl, HO2.out, HBK2.out, HB2.out⟩
      case measure => simp [intOf]; omega
    · have HT := hide (show xs.take j = xs from List.take_of_length_le (by have := HL.out; omega))
      obtain rfl : j = L := by omega
      go_wp2
      go_ret
      have ho := HO.out
      rw [HT.out] at ho
      exact ⟨A1, c1, by rw [HL.out]; rfl, by rw [HL.out]; exact own_more ho (by omega), HB.out⟩
end Go.Proofs.Ytjbfefkbpnickaa
