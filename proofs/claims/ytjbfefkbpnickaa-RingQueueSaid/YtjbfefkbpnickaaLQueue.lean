/- The walk of the law on any sequence of operations: what a round leaves. -/
import Derived.Test.YtjbfefkbpnickaaMod
import Derived.Test.YtjbfefkbpnickaaLPop
import Derived.Test.YtjbfefkbpnickaaLPop2
import Derived.Deep.CutBlock
import Derived.Deep.Cut
import Derived.Deep.CutRange
namespace Go.Proofs.Ytjbfefkbpnickaa
open Go.RowKit
set_option linter.unusedVariables false
def Far (P : Nat) (A : Option Addr) : Prop := ∀ b o s, A = some ⟨b, o, s⟩ → b ≠ P
theorem Far.none_ (P : Nat) : Far P none := fun _ _ _ h => by cases h
theorem Far.own_lt {w : World} {base e k n c P : Nat} {A : Option Addr} {xs : List Value} (h : w.ownsRow base e k (.slice A n c) n xs) (hP : w.heap.size ≤ P) : Far P A := fun b o s hA => by
  subst hA
  have := (h.lt b rfl).2
  omega
theorem Far.own_gt {w : World} {base e k n c P : Nat} {A : Option Addr} {xs : List Value} (h : w.ownsRow base e k (.slice A n c) n xs) (hP : P < base) : Far P A := fun b o s hA => by
  subst hA
  have := (h.lt b rfl).1
  omega
theorem Far.tail {P c : Nat} {A : Option Addr} (h : Far P A) : Far P (if c = 1 then A else A.map (·.add 2)) := by
  split
  · exact h
  · intro b o s hA
    rcases A with _ | ⟨b', o', s'⟩
    · cases hA
    · simp [Addr.add] at hA
      obtain ⟨rfl, _, _⟩ := hA
      exact h _ _ _ rfl
theorem Sl2.set4_far {w : World} {n P : Nat} {A : Option Addr} {l : List (Int × Int)} (h : Sl2 w w.heap.size A n l) (hf : Far P A) (x y z u : Value) :
    Sl2 ((((w.setCell ⟨P, 0, none⟩ x).setCell ⟨P, 1, none⟩ y).setCell ⟨P, 2, none⟩ z).setCell ⟨P, 3, none⟩ u) ((((w.setCell ⟨P, 0, none⟩ x).setCell ⟨P, 1, none⟩ y).setCell ⟨P, 2, none⟩ z).setCell ⟨P, 3, none⟩ u).heap.size A n l := by
  refine ⟨h.1, fun hn => ?_⟩
  obtain ⟨b, o, rfl, hb, hc⟩ := h.2 hn
  have hne := hf b o none rfl
  refine ⟨b, o, rfl, by simpa using hb, fun i p hp => ?_⟩
  obtain ⟨c1, c2⟩ := hc i p hp
  exact ⟨cell_far4 hne _ _ _ _ c1, cell_far4 hne _ _ _ _ c2⟩
/-- what the operation leaves where it goes well -/
def SwOk (C L P Y : Nat) (wx : World) (g want : Value) : Prop :=
  ∃ (H M : Nat) (ys : List (Int × Int)) (A : Option Addr) (c : Nat) (Aw : Option Addr) (cw : Nat), g = .int .i64 0 ∧ want = .slice Aw M cw ∧ ys.length = M ∧ M ≤ cw ∧ cw ≤ maxLen ∧ M ≠ L ∧ Rg C H M (cellsL C H ys) C H ys ∧
    Blk wx Y 24 #[.int .i64 C, .int .i64 H, .int .i64 M, .slice A C c] ∧ Sl2 wx wx.heap.size A C (cellsL C H ys) ∧ Far P A ∧ Sl2 wx wx.heap.size Aw M ys ∧ Far P Aw
/-- and where it is refused -/
def SwNo (C L : Nat) (g want : Value) : Prop := ∃ (k : Int) (Aw : Option Addr) (nw cw : Nat), g = .int .i64 k ∧ k ≠ 0 ∧ want = .slice Aw nw cw ∧ (C < nw ∨ nw = L)
def SwEnd (C L P Y : Nat) (w0 : World) (g want : Value) (wx : World) : Prop := (SwOk C L P Y wx g want ∨ SwNo C L g want) ∧ Below w0.heap.size w0 wx
def RingIn (C P : Nat) (w w0 : World) (lst : Value) (H L : Nat) (xs : List (Int × Int)) (A : Option Addr) (c : Nat) (Al : Option Addr) (cl : Nat) : Prop :=
  lst = .slice Al L cl ∧ xs.length = L ∧ L ≤ cl ∧ cl ≤ maxLen ∧ Rg C H L (cellsL C H xs) C H xs ∧ Blk w0 P 24 #[.int .i64 C, .int .i64 H, .int .i64 L, .slice A C c] ∧ Sl2 w0 w0.heap.size A C (cellsL C H xs) ∧ Far P A ∧ Sl2 w0 w0.heap.size Al L xs ∧ Far P Al ∧ Below w.heap.size w w0
set_option maxRecDepth 100000 in
theorem int_any (a : Int) (r : Nat) (w : World) (hr : a % 6 = r) : Calls Try.prog 27 #[.int .i64 a, .int .i64 6] w (fun e w' => e = .returned (.int .i64 r) ∧ w = w') := by
  have C28 := hide (fun w0 => mod_any a 6 w0 (by omega) (by omega))
  unfold ModEnd at C28
  rw [hr] at C28
  clear hr
  go_enter Try.func27, Try.ntmps27
  go_wp2_with (fail)
  refine (C28.out _).mono ?_
  rintro e w1 ⟨rfl, rfl⟩
  go_wp2
  go_ret
  exact ⟨rfl, rfl⟩
set_option maxRecDepth 100000 in
set_option maxHeartbeats 4000000 in
theorem ringQueue_walk (cap : Int) (A0 : Option Addr) (n c0 : Nat) (ops : List (Int × Int)) (w : World) (h : Sl2 w w.heap.size A0 n ops) (hn : n ≤ c0 ∧ c0 ≤ maxLen) :
    Calls Try.prog 9 #[.int .i64 cap, .slice A0 n c0] w (TrueEnd w) := by
  have C12 := hide awake_any
  obtain ⟨r, hr⟩ := Int.eq_ofNat_of_zero_le (a := cap % 6) (Int.emod_nonneg _ (by omega))
  have hr6 : r < 6 := by have := Int.emod_lt_of_pos cap (show (0 : Int) < 6 by omega); omega
  have C27 := hide (fun w0 => int_any cap r w0 hr)
  obtain ⟨C, hCe⟩ : ∃ C : Nat, (1 : Int) + r = C := ⟨1 + r, by simp⟩
  have hC1 : 1 ≤ C := by omega
  have hC2 : C ≤ 6 := by omega
  have C10 := hide (fun w0 => new_ok C w0 ⟨hC1, by omega⟩)
  unfold ringV at C10
  have HOPS := hide h
  obtain ⟨hnc, hcm⟩ := hn
  unfold maxLen at hcm
  have B0 := hide (Below.refl w.heap.size w)
  clear h hr
  go_enter Try.func9, Try.ntmps9
  go_wp2_with (fail)
  refine (C27.out _).mono ?_
  rintro e w1 ⟨rfl, rfl⟩
  go_wp2_with (fail)
  refine (C10.out _).mono ?_
  rintro e w1 ⟨A1, c1, rfl, hown, hb⟩
  have hfar := Far.own_lt hown (Nat.le_refl _)
  have zs1 := hb.size
  have qB : Below w.heap.size w w1 := Bl.call' B0.out hb
  have qS : Sl2 w1 w1.heap.size A1 (C) (cellsL C 0 []) := Sl2.own_h hown
  clear B0
  have B1 := hide qB
  have S1 := hide qS
  clear qB qS
  clear hb
  have HFAR := hide hfar
  clear hown hfar hCe
  go_upto_region 3 with (fail)
  have qB : Below w.heap.size w (w1.alloc (.cells #[.int .i64 C, .int .i64 0, .int .i64 0, .slice A1 C c1] 24)) := Bl.alloc' B1.out _
  have qS : Sl2 (w1.alloc (.cells #[.int .i64 C, .int .i64 0, .int .i64 0, .slice A1 C c1] 24)) (w1.alloc (.cells #[.int .i64 C, .int .i64 0, .int .i64 0, .slice A1 C c1] 24)).heap.size A1 (C) (cellsL C 0 []) := Sl2.alloc_h S1.out _
  have qR : Blk (w1.alloc (.cells #[.int .i64 C, .int .i64 0, .int .i64 0, .slice A1 C c1] 24)) (w1.heap.size) 24 #[.int .i64 C, .int .i64 0, .int .i64 0, .slice A1 C c1] := Blk.new _ _ _
  have z2 : (w1.alloc (.cells #[.int .i64 C, .int .i64 0, .int .i64 0, .slice A1 C c1] 24)).heap.size = w1.heap.size + 1 := by simp
  clear B1 S1
  generalize (w1.alloc (.cells #[.int .i64 C, .int .i64 0, .int .i64 0, .slice A1 C c1] 24)) = w2 at *
  have B2 := hide qB
  have S2 := hide qS
  have R2 := hide qR
  clear qB qS qR
  have zi2 : w2.heap.size ≤ w1.heap.size + 1 ∧ w1.heap.size < w2.heap.size := by omega
  clear z2
  go_wp2
  have hPw : w.heap.size ≤ w1.heap.size := by omega
  generalize hP : w1.heap.size = P at *
  have HP := hide hP
  clear hP
  have HST := hide (show ∃ (H L : Nat) (xs : List (Int × Int)) (A : Option Addr) (c : Nat) (Al : Option Addr) (cl : Nat), RingIn C P w w2 (.slice none 0 0) H L xs A c Al cl from ⟨0, 0, [], A1, c1, none, 0, rfl, rfl, Nat.le_refl _, Nat.zero_le _, ⟨rfl, rfl, rfl, hC1, by omega, by omega, Nat.zero_le _, rfl⟩, R2.out, S2.out, HFAR.out, Sl2.none_, Far.none_ _, B2.out⟩)
  clear B2 S2 R2 HFAR
  go_loopw [7, 8] (fun lst i wr => ∃ j : Nat, i = .int .i64 j ∧ j ≤ n ∧ ∃ (H L : Nat) (xs : List (Int × Int)) (A : Option Addr) (c : Nat) (Al : Option Addr) (cl : Nat), RingIn C P w wr lst H L xs A c Al cl) (fun _ i _ => n - (intOf i).toNat)
  case atStart => exact ⟨0, rfl, Nat.zero_le _, HST.out⟩
  case round =>
    obtain ⟨j, rfl, hj, H, L, xs, A, c, Al, cl, hri⟩ := hrel
    have HRI := hide hri
    obtain ⟨rfl, hxl, hlc, hlm, hrg, hbk, hsa, hfa, hsl, hfl, hbw⟩ := hri
    have HB := hide hbw
    have hPlt := hbk.lt
    clear hxl hrg hbk hsa hfa hsl hfl hbw HST
    by_cases hlt : j < n
    · by_cases h60 : j < 60
      · have hd60 : decide ((j : Int) < 60) = true := by simp; omega
        obtain ⟨b, o, x1, x2, rfl, hbB, hp, d1, d2⟩ := (HOPS.out.below HB.out).at_ hlt
        have hszw := HB.out.size
        clear hp
        obtain ⟨m, hm⟩ : ∃ m : Nat, x1 % 5 = m := Int.eq_ofNat_of_zero_le (Int.emod_nonneg _ (by omega))
        have hm5 : m < 5 := by have := Int.emod_lt_of_pos x1 (show (0 : Int) < 5 by omega); omega
        have C28 := hide (fun w0 => mod_any x1 5 w0 (by omega) (by omega))
        unfold ModEnd at C28
        rw [hm] at C28
        clear hm
        go_upto_region 10 with (fail)
        clear d1 d2
        have D10 := hide (Below.refl wr.heap.size wr)
        have qD : Below wr.heap.size wr (wr.alloc (.cells #[.int .i64 x1, .int .i64 x2] 33)) := Bl.alloc' D10.out _
        have qX : Blk (wr.alloc (.cells #[.int .i64 x1, .int .i64 x2] 33)) (wr.heap.size) 33 #[.int .i64 x1, .int .i64 x2] := Blk.new _ _ _
        have z11 : (wr.alloc (.cells #[.int .i64 x1, .int .i64 x2] 33)).heap.size = wr.heap.size + 1 := by simp
        clear D10
        generalize (wr.alloc (.cells #[.int .i64 x1, .int .i64 x2] 33)) = w11 at *
        have D11 := hide qD
        have X11 := hide qX
        clear qD qX
        have zi11 : w11.heap.size ≤ wr.heap.size + 1 ∧ wr.heap.size < w11.heap.size := by omega
        clear z11
        go_upto_region 11 with (fail)
        have qD : Below wr.heap.size wr (w11.alloc (.cells #[.int .i64 0, .int .i64 0, .int .i64 0, .slice none 0 0] 24)) := Bl.alloc' D11.out _
        have qX : Blk (w11.alloc (.cells #[.int .i64 0, .int .i64 0, .int .i64 0, .slice none 0 0] 24)) (wr.heap.size) 33 #[.int .i64 x1, .int .i64 x2] := X11.out.alloc _
        have qY : Blk (w11.alloc (.cells #[.int .i64 0, .int .i64 0, .int .i64 0, .slice none 0 0] 24)) (w11.heap.size) 24 #[.int .i64 0, .int .i64 0, .int .i64 0, .slice none 0 0] := Blk.new _ _ _
        have z12 : (w11.alloc (.cells #[.int .i64 0, .int .i64 0, .int .i64 0, .slice none 0 0] 24)).heap.size = w11.heap.size + 1 := by simp
        clear D11 X11
        generalize (w11.alloc (.cells #[.int .i64 0, .int .i64 0, .int .i64 0, .slice none 0 0] 24)) = w12 at *
        have D12 := hide qD
        have X12 := hide qX
        have Y12 := hide qY
        clear qD qX qY
        have zi12 : w12.heap.size ≤ w11.heap.size + 1 ∧ w11.heap.size < w12.heap.size := by omega
        clear z12
        obtain ⟨y0, y1, y2, y3⟩ := X12.out.two
        go_wp2_with (fail)
        clear y0 y1 y2 y3
        refine (C28.out _).mono ?_
        rintro e w13 ⟨rfl, rfl⟩
        go_upto_block 2 with (fail)
        go_cut [11, 12] from 23 to 117 (fun g want wx => SwEnd C L P (w11.heap.size) wr g want wx)
        case first =>
          obtain ⟨hlst, hxl, _, _, hrg, hbk, hsa, hfa, hsl, hfl, _⟩ := HRI.out
          clear hlst
          have HSA0 := hide hsa
          have HSL0 := hide hsl
          have HFA := hide hfa
          have HFL := hide hfl
          have HR := hide hrg
          have HXL := hide hxl
          have R12 := hide (hbk.below D12.out hPlt)
          have hH := hrg.hd
          have hLC : L ≤ C := by have := hrg.fits; omega
          clear hxl hrg hbk hsa hfa hsl hfl
          obtain ⟨i0, hi0, hz0, hz1, hz2⟩ := info_parts info33
          rcases (show m = 0 ∨ m = 1 ∨ m = 2 ∨ m = 3 ∨ m = 4 by omega) with rfl | rfl | rfl | rfl | rfl
          · rcases Nat.lt_or_ge L C with hx | hx
            · skip
              have CP := hide (fun (w0 : World) (hs : Sl2 w0 w0.heap.size A C (cellsL C H xs)) => pushback_ok C H xs A c _ (x1, x2) w0 hs (Nat.le_refl _) (by rw [HXL.out]; exact HR.out) (by rw [HXL.out]; exact hx))
              unfold PushEnd ringV itV at CP
              rw [show (xs ++ [(x1, x2)]).length = L + 1 by simp [HXL.out], HXL.out] at CP
              have hne : ((L : Int) == C) = false := by simp; omega
              obtain ⟨p0, p1, p2, p3, p4, p5, p6, p7⟩ := R12.out.four
              obtain ⟨y0, y1, y2, y3⟩ := X12.out.two
              go_wp2_with (fail)
              refine (CP.out _ (Sl2.below_h D12.out HSA0.out)).mono ?_
              rintro e w13 ⟨A3, c3, rfl, hown, hb⟩
              have zs13 := hb.size
              clear p0 p1 p2 p3 p4 p5 p6 p7 y0 y1 y2 y3
              have qD : Below wr.heap.size wr w13 := Bl.call' D12.out hb
              have qX : Blk w13 (wr.heap.size) 33 #[.int .i64 x1, .int .i64 x2] := X12.out.below hb X12.out.lt
              have qY : Blk w13 (w11.heap.size) 24 #[.int .i64 0, .int .i64 0, .int .i64 0, .slice none 0 0] := Y12.out.below hb Y12.out.lt
              have qR : Blk w13 (P) 24 #[.int .i64 C, .int .i64 H, .int .i64 L, .slice A C c] := R12.out.below hb R12.out.lt
              have qO : World.ownsRow w13 (w12.heap.size) 33 2 (.slice A3 C c3) (C) (flat (cellsL C H (xs ++ [(x1, x2)]))) := hown
              clear D12 X12 Y12 R12
              have D13 := hide qD
              have X13 := hide qX
              have Y13 := hide qY
              have R13 := hide qR
              have O13 := hide qO
              clear qD qX qY qR qO
              clear hb
              have HF3 := hide (Far.own_gt (P := P) hown (by omega))
              clear hown
              obtain ⟨u0, u1, u2, u3, u4, u5, u6, u7⟩ := Y13.out.four
              go_upto_region 17 with (fail)
              clear u0 u1 u2 u3 u4 u5 u6 u7
              have qD : Below wr.heap.size wr (((((w13.setCell ⟨w11.heap.size, 0, none⟩ (.int .i64 C)).setCell ⟨w11.heap.size, 1, none⟩ (.int .i64 H)).setCell ⟨w11.heap.size, 2, none⟩ (.int .i64 ((L : Int) + 1))).setCell ⟨w11.heap.size, 3, none⟩ (.slice A3 C c3))) := Bl.set4 D13.out (by omega) _ _ _ _
              have qX : Blk (((((w13.setCell ⟨w11.heap.size, 0, none⟩ (.int .i64 C)).setCell ⟨w11.heap.size, 1, none⟩ (.int .i64 H)).setCell ⟨w11.heap.size, 2, none⟩ (.int .i64 ((L : Int) + 1))).setCell ⟨w11.heap.size, 3, none⟩ (.slice A3 C c3))) (wr.heap.size) 33 #[.int .i64 x1, .int .i64 x2] := X13.out.far4 (by omega) _ _ _ _
              have qY : Blk (((((w13.setCell ⟨w11.heap.size, 0, none⟩ (.int .i64 C)).setCell ⟨w11.heap.size, 1, none⟩ (.int .i64 H)).setCell ⟨w11.heap.size, 2, none⟩ (.int .i64 ((L : Int) + 1))).setCell ⟨w11.heap.size, 3, none⟩ (.slice A3 C c3))) (w11.heap.size) 24 #[.int .i64 C, .int .i64 H, .int .i64 ((L : Int) + 1), .slice A3 C c3] := Y13.out.store4 _ _ _ _
              have qR : Blk (((((w13.setCell ⟨w11.heap.size, 0, none⟩ (.int .i64 C)).setCell ⟨w11.heap.size, 1, none⟩ (.int .i64 H)).setCell ⟨w11.heap.size, 2, none⟩ (.int .i64 ((L : Int) + 1))).setCell ⟨w11.heap.size, 3, none⟩ (.slice A3 C c3))) (P) 24 #[.int .i64 C, .int .i64 H, .int .i64 L, .slice A C c] := R13.out.far4 (by omega) _ _ _ _
              have qO : World.ownsRow (((((w13.setCell ⟨w11.heap.size, 0, none⟩ (.int .i64 C)).setCell ⟨w11.heap.size, 1, none⟩ (.int .i64 H)).setCell ⟨w11.heap.size, 2, none⟩ (.int .i64 ((L : Int) + 1))).setCell ⟨w11.heap.size, 3, none⟩ (.slice A3 C c3))) (w12.heap.size) 33 2 (.slice A3 C c3) (C) (flat (cellsL C H (xs ++ [(x1, x2)]))) := own_far4 O13.out (by omega) _ _ _ _
              have z14 : (((((w13.setCell ⟨w11.heap.size, 0, none⟩ (.int .i64 C)).setCell ⟨w11.heap.size, 1, none⟩ (.int .i64 H)).setCell ⟨w11.heap.size, 2, none⟩ (.int .i64 ((L : Int) + 1))).setCell ⟨w11.heap.size, 3, none⟩ (.slice A3 C c3))).heap.size = w13.heap.size := by simp
              clear D13 X13 Y13 R13 O13
              generalize (((((w13.setCell ⟨w11.heap.size, 0, none⟩ (.int .i64 C)).setCell ⟨w11.heap.size, 1, none⟩ (.int .i64 H)).setCell ⟨w11.heap.size, 2, none⟩ (.int .i64 ((L : Int) + 1))).setCell ⟨w11.heap.size, 3, none⟩ (.slice A3 C c3))) = w14 at *
              have D14 := hide qD
              have X14 := hide qX
              have Y14 := hide qY
              have R14 := hide qR
              have O14 := hide qO
              clear qD qX qY qR qO
              have zi14 : w14.heap.size ≤ w13.heap.size ∧ w13.heap.size ≤ w14.heap.size := by omega
              clear z14
              have HSLb := hide (Sl2.below_h D14.out HSL0.out)
              have lX := X14.out.lt
              have HCX := hide (show w14.cell? ⟨wr.heap.size, 0, none⟩ = some (.int .i64 x1) ∧ w14.cell? ⟨wr.heap.size, 1, none⟩ = some (.int .i64 x2) from ⟨X14.out.two.1, X14.out.two.2.1⟩)
              go_region_held3 (fun w' => w'.cell? ⟨wr.heap.size, 0, none⟩ = some (.int .i64 x1) ∧ w'.cell? ⟨wr.heap.size, 1, none⟩ = some (.int .i64 x2)) ((refine (fun hb0 : Below w14.heap.size w14 _ => ⟨(below_cell hb0 lX).trans HCX.out.1, (below_cell hb0 lX).trans HCX.out.2⟩) ?_; (repeat (first | with_reducible exact Below.refl _ _ | with_reducible exact hb7 | with_reducible exact hb6 | with_reducible refine Below.drew ?_ | with_reducible refine Bl.alloc' ?_ _)))) (first | (refine step_app (o := ⟨some 55, _, _, _, _, _⟩) _ (by rfl) (.tmp 52) (.tmp 54) _ (by rfl) w14 33 i0 _ 16 Try.underlying22 hi0 hz0 hz1 hz2 rfl (.slice A6 L c6) L xs (by rfl) ?_ ?_ _ 1 1 [(x1, x2)] (by rfl) ?_ (L + 1) (by omega) (by simp only [maxLen]; omega) (by omega) ?_; (· repeat (first | with_reducible exact Below.refl _ _ | with_reducible exact hb6 | with_reducible refine Below.drew ?_ | with_reducible refine Bl.alloc' ?_ _)); (· repeat (first | ((with_reducible refine own_empty_h ?_ ?_ _); (· simp); (· omega)) | with_reducible exact hown6 | with_reducible refine World.ownsRow.drew ?_ | with_reducible refine World.ownsRow.alloc ?_ _)); (· repeat (first | ((with_reducible refine Sl2.one_h ?_ (x1, x2) 33); simp; done) | ((with_reducible refine Sl2.gr_h hg6 ?_ ?_); rotate_left; (· intro hh; simp only [Value.ownBlock, Option.some.injEq] at hh; omega)) | with_reducible refine Sl2.drew_h ?_ | with_reducible refine Sl2.alloc_h ?_ _)); intro A7 c7 wQ hown7 hg7 hb7; have hz7 := hb7.size) | (refine step_app (o := ⟨some 52, _, _, _, _, _⟩) _ (by rfl) (.tmp 50) (.tmp 51) _ (by rfl) w14 33 i0 _ 16 Try.underlying22 hi0 hz0 hz1 hz2 rfl (.slice (some ⟨_, 0, none⟩) 0 0) 0 [] (by rfl) ?_ ?_ Al L cl xs (by rfl) ?_ L (by omega) (by simp only [maxLen]; omega) (by omega) ?_; (· repeat (first | with_reducible exact Below.refl _ _ | with_reducible refine Below.drew ?_ | with_reducible refine Bl.alloc' ?_ _)); (· repeat (first | ((with_reducible refine own_empty_h ?_ ?_ _); (· simp); (· omega)) | with_reducible refine World.ownsRow.drew ?_ | with_reducible refine World.ownsRow.alloc ?_ _)); (· repeat (first | with_reducible exact HSLb.out | with_reducible refine Sl2.drew_h ?_ | with_reducible refine Sl2.alloc_h ?_ _)); intro A6 c6 wP hown6 hg6 hb6; rw [List.nil_append] at hown6; have hz6 := hb6.size))
              all_goals
                go_wp2_with (fail)
                go_meet
                refine ⟨Or.inl ⟨H, L + 1, (xs ++ [(x1, x2)]), A3, c3, A7, c7, rfl, by first | rfl | rw [Nat.add_comm], by simp [HXL.out], (own_cap hown7).1, (own_cap hown7).2, by omega, ⟨rfl, rfl, by first | rfl | (simp [HXL.out]; done) | (simp [HXL.out]; omega), hC1, by omega, hH, by first | omega | (simp [HXL.out]; omega), rfl⟩, ?_, Sl2.own_h (own_below O14.out hb7), HF3.out, Sl2.own_h hown7, Far.own_gt hown7 (by omega)⟩, Bl.call' D14.out hb7⟩
                exact Y14.out.below hb7 Y14.out.lt
            · skip
              obtain rfl : L = C := by omega
              have CP := hide (fun (w0 : World) (hs : Sl2 w0 w0.heap.size A L (cellsL L H xs)) => pushback_full L H A L c _ (cellsL L H xs) (x1, x2) w0 hs (Nat.le_refl _) HR.out.ok)
              unfold ErrEnd ringV itV at CP
              have hne : ((L : Int) == L) = true := by simp
              obtain ⟨p0, p1, p2, p3, p4, p5, p6, p7⟩ := R12.out.four
              obtain ⟨y0, y1, y2, y3⟩ := X12.out.two
              go_wp2_with (fail)
              refine (CP.out _ (Sl2.below_h D12.out HSA0.out)).mono ?_
              rintro e w13 ⟨rfl, hb⟩
              have zs13 := hb.size
              clear p0 p1 p2 p3 p4 p5 p6 p7 y0 y1 y2 y3
              have qD : Below wr.heap.size wr w13 := Bl.call' D12.out hb
              have qX : Blk w13 (wr.heap.size) 33 #[.int .i64 x1, .int .i64 x2] := X12.out.below hb X12.out.lt
              have qY : Blk w13 (w11.heap.size) 24 #[.int .i64 0, .int .i64 0, .int .i64 0, .slice none 0 0] := Y12.out.below hb Y12.out.lt
              have qR : Blk w13 (P) 24 #[.int .i64 L, .int .i64 H, .int .i64 L, .slice A L c] := R12.out.below hb R12.out.lt
              clear D12 X12 Y12 R12
              have D13 := hide qD
              have X13 := hide qX
              have Y13 := hide qY
              have R13 := hide qR
              clear qD qX qY qR
              clear hb
              obtain ⟨u0, u1, u2, u3, u4, u5, u6, u7⟩ := Y13.out.four
              go_upto_region 17 with (fail)
              clear u0 u1 u2 u3 u4 u5 u6 u7
              have qD : Below wr.heap.size wr (((((w13.setCell ⟨w11.heap.size, 0, none⟩ (.int .i64 0)).setCell ⟨w11.heap.size, 1, none⟩ (.int .i64 0)).setCell ⟨w11.heap.size, 2, none⟩ (.int .i64 0)).setCell ⟨w11.heap.size, 3, none⟩ (.slice none 0 0))) := Bl.set4 D13.out (by omega) _ _ _ _
              have qX : Blk (((((w13.setCell ⟨w11.heap.size, 0, none⟩ (.int .i64 0)).setCell ⟨w11.heap.size, 1, none⟩ (.int .i64 0)).setCell ⟨w11.heap.size, 2, none⟩ (.int .i64 0)).setCell ⟨w11.heap.size, 3, none⟩ (.slice none 0 0))) (wr.heap.size) 33 #[.int .i64 x1, .int .i64 x2] := X13.out.far4 (by omega) _ _ _ _
              have qY : Blk (((((w13.setCell ⟨w11.heap.size, 0, none⟩ (.int .i64 0)).setCell ⟨w11.heap.size, 1, none⟩ (.int .i64 0)).setCell ⟨w11.heap.size, 2, none⟩ (.int .i64 0)).setCell ⟨w11.heap.size, 3, none⟩ (.slice none 0 0))) (w11.heap.size) 24 #[.int .i64 0, .int .i64 0, .int .i64 0, .slice none 0 0] := Y13.out.store4 _ _ _ _
              have qR : Blk (((((w13.setCell ⟨w11.heap.size, 0, none⟩ (.int .i64 0)).setCell ⟨w11.heap.size, 1, none⟩ (.int .i64 0)).setCell ⟨w11.heap.size, 2, none⟩ (.int .i64 0)).setCell ⟨w11.heap.size, 3, none⟩ (.slice none 0 0))) (P) 24 #[.int .i64 L, .int .i64 H, .int .i64 L, .slice A L c] := R13.out.far4 (by omega) _ _ _ _
              have z14 : (((((w13.setCell ⟨w11.heap.size, 0, none⟩ (.int .i64 0)).setCell ⟨w11.heap.size, 1, none⟩ (.int .i64 0)).setCell ⟨w11.heap.size, 2, none⟩ (.int .i64 0)).setCell ⟨w11.heap.size, 3, none⟩ (.slice none 0 0))).heap.size = w13.heap.size := by simp
              clear D13 X13 Y13 R13
              generalize (((((w13.setCell ⟨w11.heap.size, 0, none⟩ (.int .i64 0)).setCell ⟨w11.heap.size, 1, none⟩ (.int .i64 0)).setCell ⟨w11.heap.size, 2, none⟩ (.int .i64 0)).setCell ⟨w11.heap.size, 3, none⟩ (.slice none 0 0))) = w14 at *
              have D14 := hide qD
              have X14 := hide qX
              have Y14 := hide qY
              have R14 := hide qR
              clear qD qX qY qR
              have zi14 : w14.heap.size ≤ w13.heap.size ∧ w13.heap.size ≤ w14.heap.size := by omega
              clear z14
              have HSLb := hide (Sl2.below_h D14.out HSL0.out)
              have lX := X14.out.lt
              have HCX := hide (show w14.cell? ⟨wr.heap.size, 0, none⟩ = some (.int .i64 x1) ∧ w14.cell? ⟨wr.heap.size, 1, none⟩ = some (.int .i64 x2) from ⟨X14.out.two.1, X14.out.two.2.1⟩)
              go_region_held3 (fun w' => w'.cell? ⟨wr.heap.size, 0, none⟩ = some (.int .i64 x1) ∧ w'.cell? ⟨wr.heap.size, 1, none⟩ = some (.int .i64 x2)) ((refine (fun hb0 : Below w14.heap.size w14 _ => ⟨(below_cell hb0 lX).trans HCX.out.1, (below_cell hb0 lX).trans HCX.out.2⟩) ?_; (repeat (first | with_reducible exact Below.refl _ _ | with_reducible exact hb7 | with_reducible exact hb6 | with_reducible refine Below.drew ?_ | with_reducible refine Bl.alloc' ?_ _)))) (first | (refine step_app (o := ⟨some 55, _, _, _, _, _⟩) _ (by rfl) (.tmp 52) (.tmp 54) _ (by rfl) w14 33 i0 _ 16 Try.underlying22 hi0 hz0 hz1 hz2 rfl (.slice A6 L c6) L xs (by rfl) ?_ ?_ _ 1 1 [(x1, x2)] (by rfl) ?_ (L + 1) (by omega) (by simp only [maxLen]; omega) (by omega) ?_; (· repeat (first | with_reducible exact Below.refl _ _ | with_reducible exact hb6 | with_reducible refine Below.drew ?_ | with_reducible refine Bl.alloc' ?_ _)); (· repeat (first | ((with_reducible refine own_empty_h ?_ ?_ _); (· simp); (· omega)) | with_reducible exact hown6 | with_reducible refine World.ownsRow.drew ?_ | with_reducible refine World.ownsRow.alloc ?_ _)); (· repeat (first | ((with_reducible refine Sl2.one_h ?_ (x1, x2) 33); simp; done) | ((with_reducible refine Sl2.gr_h hg6 ?_ ?_); rotate_left; (· intro hh; simp only [Value.ownBlock, Option.some.injEq] at hh; omega)) | with_reducible refine Sl2.drew_h ?_ | with_reducible refine Sl2.alloc_h ?_ _)); intro A7 c7 wQ hown7 hg7 hb7; have hz7 := hb7.size) | (refine step_app (o := ⟨some 52, _, _, _, _, _⟩) _ (by rfl) (.tmp 50) (.tmp 51) _ (by rfl) w14 33 i0 _ 16 Try.underlying22 hi0 hz0 hz1 hz2 rfl (.slice (some ⟨_, 0, none⟩) 0 0) 0 [] (by rfl) ?_ ?_ Al L cl xs (by rfl) ?_ L (by omega) (by simp only [maxLen]; omega) (by omega) ?_; (· repeat (first | with_reducible exact Below.refl _ _ | with_reducible refine Below.drew ?_ | with_reducible refine Bl.alloc' ?_ _)); (· repeat (first | ((with_reducible refine own_empty_h ?_ ?_ _); (· simp); (· omega)) | with_reducible refine World.ownsRow.drew ?_ | with_reducible refine World.ownsRow.alloc ?_ _)); (· repeat (first | with_reducible exact HSLb.out | with_reducible refine Sl2.drew_h ?_ | with_reducible refine Sl2.alloc_h ?_ _)); intro A6 c6 wP hown6 hg6 hb6; rw [List.nil_append] at hown6; have hz6 := hb6.size))
              all_goals
                go_wp2_with (fail)
                go_meet
                exact ⟨Or.inr ⟨5, A7, _, c7, rfl, by decide, rfl, Or.inl (by omega)⟩, Bl.call' D14.out hb7⟩
          · rcases Nat.lt_or_ge L C with hx | hx
            · skip
              have CP := hide (fun (w0 : World) (hs : Sl2 w0 w0.heap.size A C (cellsL C H xs)) => pushback_ok C H xs A c _ (x1, x2) w0 hs (Nat.le_refl _) (by rw [HXL.out]; exact HR.out) (by rw [HXL.out]; exact hx))
              unfold PushEnd ringV itV at CP
              rw [show (xs ++ [(x1, x2)]).length = L + 1 by simp [HXL.out], HXL.out] at CP
              have hne : ((L : Int) == C) = false := by simp; omega
              obtain ⟨p0, p1, p2, p3, p4, p5, p6, p7⟩ := R12.out.four
              obtain ⟨y0, y1, y2, y3⟩ := X12.out.two
              go_wp2_with (fail)
              refine (CP.out _ (Sl2.below_h D12.out HSA0.out)).mono ?_
              rintro e w13 ⟨A3, c3, rfl, hown, hb⟩
              have zs13 := hb.size
              clear p0 p1 p2 p3 p4 p5 p6 p7 y0 y1 y2 y3
              have qD : Below wr.heap.size wr w13 := Bl.call' D12.out hb
              have qX : Blk w13 (wr.heap.size) 33 #[.int .i64 x1, .int .i64 x2] := X12.out.below hb X12.out.lt
              have qY : Blk w13 (w11.heap.size) 24 #[.int .i64 0, .int .i64 0, .int .i64 0, .slice none 0 0] := Y12.out.below hb Y12.out.lt
              have qR : Blk w13 (P) 24 #[.int .i64 C, .int .i64 H, .int .i64 L, .slice A C c] := R12.out.below hb R12.out.lt
              have qO : World.ownsRow w13 (w12.heap.size) 33 2 (.slice A3 C c3) (C) (flat (cellsL C H (xs ++ [(x1, x2)]))) := hown
              clear D12 X12 Y12 R12
              have D13 := hide qD
              have X13 := hide qX
              have Y13 := hide qY
              have R13 := hide qR
              have O13 := hide qO
              clear qD qX qY qR qO
              clear hb
              have HF3 := hide (Far.own_gt (P := P) hown (by omega))
              clear hown
              obtain ⟨u0, u1, u2, u3, u4, u5, u6, u7⟩ := Y13.out.four
              go_upto_region 17 with (fail)
              clear u0 u1 u2 u3 u4 u5 u6 u7
              have qD : Below wr.heap.size wr (((((w13.setCell ⟨w11.heap.size, 0, none⟩ (.int .i64 C)).setCell ⟨w11.heap.size, 1, none⟩ (.int .i64 H)).setCell ⟨w11.heap.size, 2, none⟩ (.int .i64 ((L : Int) + 1))).setCell ⟨w11.heap.size, 3, none⟩ (.slice A3 C c3))) := Bl.set4 D13.out (by omega) _ _ _ _
              have qX : Blk (((((w13.setCell ⟨w11.heap.size, 0, none⟩ (.int .i64 C)).setCell ⟨w11.heap.size, 1, none⟩ (.int .i64 H)).setCell ⟨w11.heap.size, 2, none⟩ (.int .i64 ((L : Int) + 1))).setCell ⟨w11.heap.size, 3, none⟩ (.slice A3 C c3))) (wr.heap.size) 33 #[.int .i64 x1, .int .i64 x2] := X13.out.far4 (by omega) _ _ _ _
              have qY : Blk (((((w13.setCell ⟨w11.heap.size, 0, none⟩ (.int .i64 C)).setCell ⟨w11.heap.size, 1, none⟩ (.int .i64 H)).setCell ⟨w11.heap.size, 2, none⟩ (.int .i64 ((L : Int) + 1))).setCell ⟨w11.heap.size, 3, none⟩ (.slice A3 C c3))) (w11.heap.size) 24 #[.int .i64 C, .int .i64 H, .int .i64 ((L : Int) + 1), .slice A3 C c3] := Y13.out.store4 _ _ _ _
              have qR : Blk (((((w13.setCell ⟨w11.heap.size, 0, none⟩ (.int .i64 C)).setCell ⟨w11.heap.size, 1, none⟩ (.int .i64 H)).setCell ⟨w11.heap.size, 2, none⟩ (.int .i64 ((L : Int) + 1))).setCell ⟨w11.heap.size, 3, none⟩ (.slice A3 C c3))) (P) 24 #[.int .i64 C, .int .i64 H, .int .i64 L, .slice A C c] := R13.out.far4 (by omega) _ _ _ _
              have qO : World.ownsRow (((((w13.setCell ⟨w11.heap.size, 0, none⟩ (.int .i64 C)).setCell ⟨w11.heap.size, 1, none⟩ (.int .i64 H)).setCell ⟨w11.heap.size, 2, none⟩ (.int .i64 ((L : Int) + 1))).setCell ⟨w11.heap.size, 3, none⟩ (.slice A3 C c3))) (w12.heap.size) 33 2 (.slice A3 C c3) (C) (flat (cellsL C H (xs ++ [(x1, x2)]))) := own_far4 O13.out (by omega) _ _ _ _
              have z14 : (((((w13.setCell ⟨w11.heap.size, 0, none⟩ (.int .i64 C)).setCell ⟨w11.heap.size, 1, none⟩ (.int .i64 H)).setCell ⟨w11.heap.size, 2, none⟩ (.int .i64 ((L : Int) + 1))).setCell ⟨w11.heap.size, 3, none⟩ (.slice A3 C c3))).heap.size = w13.heap.size := by simp
              clear D13 X13 Y13 R13 O13
              generalize (((((w13.setCell ⟨w11.heap.size, 0, none⟩ (.int .i64 C)).setCell ⟨w11.heap.size, 1, none⟩ (.int .i64 H)).setCell ⟨w11.heap.size, 2, none⟩ (.int .i64 ((L : Int) + 1))).setCell ⟨w11.heap.size, 3, none⟩ (.slice A3 C c3))) = w14 at *
              have D14 := hide qD
              have X14 := hide qX
              have Y14 := hide qY
              have R14 := hide qR
              have O14 := hide qO
              clear qD qX qY qR qO
              have zi14 : w14.heap.size ≤ w13.heap.size ∧ w13.heap.size ≤ w14.heap.size := by omega
              clear z14
              have HSLb := hide (Sl2.below_h D14.out HSL0.out)
              have lX := X14.out.lt
              have HCX := hide (show w14.cell? ⟨wr.heap.size, 0, none⟩ = some (.int .i64 x1) ∧ w14.cell? ⟨wr.heap.size, 1, none⟩ = some (.int .i64 x2) from ⟨X14.out.two.1, X14.out.two.2.1⟩)
              go_region_held3 (fun w' => w'.cell? ⟨wr.heap.size, 0, none⟩ = some (.int .i64 x1) ∧ w'.cell? ⟨wr.heap.size, 1, none⟩ = some (.int .i64 x2)) ((refine (fun hb0 : Below w14.heap.size w14 _ => ⟨(below_cell hb0 lX).trans HCX.out.1, (below_cell hb0 lX).trans HCX.out.2⟩) ?_; (repeat (first | with_reducible exact Below.refl _ _ | with_reducible exact hb7 | with_reducible exact hb6 | with_reducible refine Below.drew ?_ | with_reducible refine Bl.alloc' ?_ _)))) (first | (refine step_app (o := ⟨some 55, _, _, _, _, _⟩) _ (by rfl) (.tmp 52) (.tmp 54) _ (by rfl) w14 33 i0 _ 16 Try.underlying22 hi0 hz0 hz1 hz2 rfl (.slice A6 L c6) L xs (by rfl) ?_ ?_ _ 1 1 [(x1, x2)] (by rfl) ?_ (L + 1) (by omega) (by simp only [maxLen]; omega) (by omega) ?_; (· repeat (first | with_reducible exact Below.refl _ _ | with_reducible exact hb6 | with_reducible refine Below.drew ?_ | with_reducible refine Bl.alloc' ?_ _)); (· repeat (first | ((with_reducible refine own_empty_h ?_ ?_ _); (· simp); (· omega)) | with_reducible exact hown6 | with_reducible refine World.ownsRow.drew ?_ | with_reducible refine World.ownsRow.alloc ?_ _)); (· repeat (first | ((with_reducible refine Sl2.one_h ?_ (x1, x2) 33); simp; done) | ((with_reducible refine Sl2.gr_h hg6 ?_ ?_); rotate_left; (· intro hh; simp only [Value.ownBlock, Option.some.injEq] at hh; omega)) | with_reducible refine Sl2.drew_h ?_ | with_reducible refine Sl2.alloc_h ?_ _)); intro A7 c7 wQ hown7 hg7 hb7; have hz7 := hb7.size) | (refine step_app (o := ⟨some 52, _, _, _, _, _⟩) _ (by rfl) (.tmp 50) (.tmp 51) _ (by rfl) w14 33 i0 _ 16 Try.underlying22 hi0 hz0 hz1 hz2 rfl (.slice (some ⟨_, 0, none⟩) 0 0) 0 [] (by rfl) ?_ ?_ Al L cl xs (by rfl) ?_ L (by omega) (by simp only [maxLen]; omega) (by omega) ?_; (· repeat (first | with_reducible exact Below.refl _ _ | with_reducible refine Below.drew ?_ | with_reducible refine Bl.alloc' ?_ _)); (· repeat (first | ((with_reducible refine own_empty_h ?_ ?_ _); (· simp); (· omega)) | with_reducible refine World.ownsRow.drew ?_ | with_reducible refine World.ownsRow.alloc ?_ _)); (· repeat (first | with_reducible exact HSLb.out | with_reducible refine Sl2.drew_h ?_ | with_reducible refine Sl2.alloc_h ?_ _)); intro A6 c6 wP hown6 hg6 hb6; rw [List.nil_append] at hown6; have hz6 := hb6.size))
              all_goals
                go_wp2_with (fail)
                go_meet
                refine ⟨Or.inl ⟨H, L + 1, (xs ++ [(x1, x2)]), A3, c3, A7, c7, rfl, by first | rfl | rw [Nat.add_comm], by simp [HXL.out], (own_cap hown7).1, (own_cap hown7).2, by omega, ⟨rfl, rfl, by first | rfl | (simp [HXL.out]; done) | (simp [HXL.out]; omega), hC1, by omega, hH, by first | omega | (simp [HXL.out]; omega), rfl⟩, ?_, Sl2.own_h (own_below O14.out hb7), HF3.out, Sl2.own_h hown7, Far.own_gt hown7 (by omega)⟩, Bl.call' D14.out hb7⟩
                exact Y14.out.below hb7 Y14.out.lt
            · skip
              obtain rfl : L = C := by omega
              have CP := hide (fun (w0 : World) (hs : Sl2 w0 w0.heap.size A L (cellsL L H xs)) => pushback_full L H A L c _ (cellsL L H xs) (x1, x2) w0 hs (Nat.le_refl _) HR.out.ok)
              unfold ErrEnd ringV itV at CP
              have hne : ((L : Int) == L) = true := by simp
              obtain ⟨p0, p1, p2, p3, p4, p5, p6, p7⟩ := R12.out.four
              obtain ⟨y0, y1, y2, y3⟩ := X12.out.two
              go_wp2_with (fail)
              refine (CP.out _ (Sl2.below_h D12.out HSA0.out)).mono ?_
              rintro e w13 ⟨rfl, hb⟩
              have zs13 := hb.size
              clear p0 p1 p2 p3 p4 p5 p6 p7 y0 y1 y2 y3
              have qD : Below wr.heap.size wr w13 := Bl.call' D12.out hb
              have qX : Blk w13 (wr.heap.size) 33 #[.int .i64 x1, .int .i64 x2] := X12.out.below hb X12.out.lt
              have qY : Blk w13 (w11.heap.size) 24 #[.int .i64 0, .int .i64 0, .int .i64 0, .slice none 0 0] := Y12.out.below hb Y12.out.lt
              have qR : Blk w13 (P) 24 #[.int .i64 L, .int .i64 H, .int .i64 L, .slice A L c] := R12.out.below hb R12.out.lt
              clear D12 X12 Y12 R12
              have D13 := hide qD
              have X13 := hide qX
              have Y13 := hide qY
              have R13 := hide qR
              clear qD qX qY qR
              clear hb
              obtain ⟨u0, u1, u2, u3, u4, u5, u6, u7⟩ := Y13.out.four
              go_upto_region 17 with (fail)
              clear u0 u1 u2 u3 u4 u5 u6 u7
              have qD : Below wr.heap.size wr (((((w13.setCell ⟨w11.heap.size, 0, none⟩ (.int .i64 0)).setCell ⟨w11.heap.size, 1, none⟩ (.int .i64 0)).setCell ⟨w11.heap.size, 2, none⟩ (.int .i64 0)).setCell ⟨w11.heap.size, 3, none⟩ (.slice none 0 0))) := Bl.set4 D13.out (by omega) _ _ _ _
              have qX : Blk (((((w13.setCell ⟨w11.heap.size, 0, none⟩ (.int .i64 0)).setCell ⟨w11.heap.size, 1, none⟩ (.int .i64 0)).setCell ⟨w11.heap.size, 2, none⟩ (.int .i64 0)).setCell ⟨w11.heap.size, 3, none⟩ (.slice none 0 0))) (wr.heap.size) 33 #[.int .i64 x1, .int .i64 x2] := X13.out.far4 (by omega) _ _ _ _
              have qY : Blk (((((w13.setCell ⟨w11.heap.size, 0, none⟩ (.int .i64 0)).setCell ⟨w11.heap.size, 1, none⟩ (.int .i64 0)).setCell ⟨w11.heap.size, 2, none⟩ (.int .i64 0)).setCell ⟨w11.heap.size, 3, none⟩ (.slice none 0 0))) (w11.heap.size) 24 #[.int .i64 0, .int .i64 0, .int .i64 0, .slice none 0 0] := Y13.out.store4 _ _ _ _
              have qR : Blk (((((w13.setCell ⟨w11.heap.size, 0, none⟩ (.int .i64 0)).setCell ⟨w11.heap.size, 1, none⟩ (.int .i64 0)).setCell ⟨w11.heap.size, 2, none⟩ (.int .i64 0)).setCell ⟨w11.heap.size, 3, none⟩ (.slice none 0 0))) (P) 24 #[.int .i64 L, .int .i64 H, .int .i64 L, .slice A L c] := R13.out.far4 (by omega) _ _ _ _
              have z14 : (((((w13.setCell ⟨w11.heap.size, 0, none⟩ (.int .i64 0)).setCell ⟨w11.heap.size, 1, none⟩ (.int .i64 0)).setCell ⟨w11.heap.size, 2, none⟩ (.int .i64 0)).setCell ⟨w11.heap.size, 3, none⟩ (.slice none 0 0))).heap.size = w13.heap.size := by simp
              clear D13 X13 Y13 R13
              generalize (((((w13.setCell ⟨w11.heap.size, 0, none⟩ (.int .i64 0)).setCell ⟨w11.heap.size, 1, none⟩ (.int .i64 0)).setCell ⟨w11.heap.size, 2, none⟩ (.int .i64 0)).setCell ⟨w11.heap.size, 3, none⟩ (.slice none 0 0))) = w14 at *
              have D14 := hide qD
              have X14 := hide qX
              have Y14 := hide qY
              have R14 := hide qR
              clear qD qX qY qR
              have zi14 : w14.heap.size ≤ w13.heap.size ∧ w13.heap.size ≤ w14.heap.size := by omega
              clear z14
              have HSLb := hide (Sl2.below_h D14.out HSL0.out)
              have lX := X14.out.lt
              have HCX := hide (show w14.cell? ⟨wr.heap.size, 0, none⟩ = some (.int .i64 x1) ∧ w14.cell? ⟨wr.heap.size, 1, none⟩ = some (.int .i64 x2) from ⟨X14.out.two.1, X14.out.two.2.1⟩)
              go_region_held3 (fun w' => w'.cell? ⟨wr.heap.size, 0, none⟩ = some (.int .i64 x1) ∧ w'.cell? ⟨wr.heap.size, 1, none⟩ = some (.int .i64 x2)) ((refine (fun hb0 : Below w14.heap.size w14 _ => ⟨(below_cell hb0 lX).trans HCX.out.1, (below_cell hb0 lX).trans HCX.out.2⟩) ?_; (repeat (first | with_reducible exact Below.refl _ _ | with_reducible exact hb7 | with_reducible exact hb6 | with_reducible refine Below.drew ?_ | with_reducible refine Bl.alloc' ?_ _)))) (first | (refine step_app (o := ⟨some 55, _, _, _, _, _⟩) _ (by rfl) (.tmp 52) (.tmp 54) _ (by rfl) w14 33 i0 _ 16 Try.underlying22 hi0 hz0 hz1 hz2 rfl (.slice A6 L c6) L xs (by rfl) ?_ ?_ _ 1 1 [(x1, x2)] (by rfl) ?_ (L + 1) (by omega) (by simp only [maxLen]; omega) (by omega) ?_; (· repeat (first | with_reducible exact Below.refl _ _ | with_reducible exact hb6 | with_reducible refine Below.drew ?_ | with_reducible refine Bl.alloc' ?_ _)); (· repeat (first | ((with_reducible refine own_empty_h ?_ ?_ _); (· simp); (· omega)) | with_reducible exact hown6 | with_reducible refine World.ownsRow.drew ?_ | with_reducible refine World.ownsRow.alloc ?_ _)); (· repeat (first | ((with_reducible refine Sl2.one_h ?_ (x1, x2) 33); simp; done) | ((with_reducible refine Sl2.gr_h hg6 ?_ ?_); rotate_left; (· intro hh; simp only [Value.ownBlock, Option.some.injEq] at hh; omega)) | with_reducible refine Sl2.drew_h ?_ | with_reducible refine Sl2.alloc_h ?_ _)); intro A7 c7 wQ hown7 hg7 hb7; have hz7 := hb7.size) | (refine step_app (o := ⟨some 52, _, _, _, _, _⟩) _ (by rfl) (.tmp 50) (.tmp 51) _ (by rfl) w14 33 i0 _ 16 Try.underlying22 hi0 hz0 hz1 hz2 rfl (.slice (some ⟨_, 0, none⟩) 0 0) 0 [] (by rfl) ?_ ?_ Al L cl xs (by rfl) ?_ L (by omega) (by simp only [maxLen]; omega) (by omega) ?_; (· repeat (first | with_reducible exact Below.refl _ _ | with_reducible refine Below.drew ?_ | with_reducible refine Bl.alloc' ?_ _)); (· repeat (first | ((with_reducible refine own_empty_h ?_ ?_ _); (· simp); (· omega)) | with_reducible refine World.ownsRow.drew ?_ | with_reducible refine World.ownsRow.alloc ?_ _)); (· repeat (first | with_reducible exact HSLb.out | with_reducible refine Sl2.drew_h ?_ | with_reducible refine Sl2.alloc_h ?_ _)); intro A6 c6 wP hown6 hg6 hb6; rw [List.nil_append] at hown6; have hz6 := hb6.size))
              all_goals
                go_wp2_with (fail)
                go_meet
                exact ⟨Or.inr ⟨5, A7, _, c7, rfl, by decide, rfl, Or.inl (by omega)⟩, Bl.call' D14.out hb7⟩
          · rcases Nat.lt_or_ge L C with hx | hx
            · skip
              have CP := hide (fun (w0 : World) (hs : Sl2 w0 w0.heap.size A C (cellsL C H xs)) => pushfront_ok C H xs A c _ (x1, x2) w0 hs (Nat.le_refl _) (by rw [HXL.out]; exact HR.out) (by rw [HXL.out]; exact hx))
              unfold PushEnd ringV itV at CP
              rw [show ((x1, x2) :: xs).length = L + 1 by simp [HXL.out], HXL.out] at CP
              have hne : ((L : Int) == C) = false := by simp; omega
              have hH1 : (H + C - 1) % C < C := Nat.mod_lt _ (by omega)
              generalize (H + C - 1) % C = H1 at *
              obtain ⟨p0, p1, p2, p3, p4, p5, p6, p7⟩ := R12.out.four
              obtain ⟨y0, y1, y2, y3⟩ := X12.out.two
              go_wp2_with (fail)
              refine (CP.out _ (Sl2.below_h D12.out HSA0.out)).mono ?_
              rintro e w13 ⟨A3, c3, rfl, hown, hb⟩
              have zs13 := hb.size
              clear p0 p1 p2 p3 p4 p5 p6 p7 y0 y1 y2 y3
              have qD : Below wr.heap.size wr w13 := Bl.call' D12.out hb
              have qX : Blk w13 (wr.heap.size) 33 #[.int .i64 x1, .int .i64 x2] := X12.out.below hb X12.out.lt
              have qY : Blk w13 (w11.heap.size) 24 #[.int .i64 0, .int .i64 0, .int .i64 0, .slice none 0 0] := Y12.out.below hb Y12.out.lt
              have qR : Blk w13 (P) 24 #[.int .i64 C, .int .i64 H, .int .i64 L, .slice A C c] := R12.out.below hb R12.out.lt
              have qO : World.ownsRow w13 (w12.heap.size) 33 2 (.slice A3 C c3) (C) (flat (cellsL C H1 ((x1, x2) :: xs))) := hown
              clear D12 X12 Y12 R12
              have D13 := hide qD
              have X13 := hide qX
              have Y13 := hide qY
              have R13 := hide qR
              have O13 := hide qO
              clear qD qX qY qR qO
              clear hb
              have HF3 := hide (Far.own_gt (P := P) hown (by omega))
              clear hown
              obtain ⟨u0, u1, u2, u3, u4, u5, u6, u7⟩ := Y13.out.four
              obtain ⟨y0, y1, y2, y3⟩ := X13.out.two
              go_upto_region 20 with (fail)
              clear u0 u1 u2 u3 u4 u5 u6 u7 y0 y1 y2 y3
              have qD : Below wr.heap.size wr (((((w13.setCell ⟨w11.heap.size, 0, none⟩ (.int .i64 C)).setCell ⟨w11.heap.size, 1, none⟩ (.int .i64 H1)).setCell ⟨w11.heap.size, 2, none⟩ (.int .i64 ((L : Int) + 1))).setCell ⟨w11.heap.size, 3, none⟩ (.slice A3 C c3))) := Bl.set4 D13.out (by omega) _ _ _ _
              have qX : Blk (((((w13.setCell ⟨w11.heap.size, 0, none⟩ (.int .i64 C)).setCell ⟨w11.heap.size, 1, none⟩ (.int .i64 H1)).setCell ⟨w11.heap.size, 2, none⟩ (.int .i64 ((L : Int) + 1))).setCell ⟨w11.heap.size, 3, none⟩ (.slice A3 C c3))) (wr.heap.size) 33 #[.int .i64 x1, .int .i64 x2] := X13.out.far4 (by omega) _ _ _ _
              have qY : Blk (((((w13.setCell ⟨w11.heap.size, 0, none⟩ (.int .i64 C)).setCell ⟨w11.heap.size, 1, none⟩ (.int .i64 H1)).setCell ⟨w11.heap.size, 2, none⟩ (.int .i64 ((L : Int) + 1))).setCell ⟨w11.heap.size, 3, none⟩ (.slice A3 C c3))) (w11.heap.size) 24 #[.int .i64 C, .int .i64 H1, .int .i64 ((L : Int) + 1), .slice A3 C c3] := Y13.out.store4 _ _ _ _
              have qR : Blk (((((w13.setCell ⟨w11.heap.size, 0, none⟩ (.int .i64 C)).setCell ⟨w11.heap.size, 1, none⟩ (.int .i64 H1)).setCell ⟨w11.heap.size, 2, none⟩ (.int .i64 ((L : Int) + 1))).setCell ⟨w11.heap.size, 3, none⟩ (.slice A3 C c3))) (P) 24 #[.int .i64 C, .int .i64 H, .int .i64 L, .slice A C c] := R13.out.far4 (by omega) _ _ _ _
              have qO : World.ownsRow (((((w13.setCell ⟨w11.heap.size, 0, none⟩ (.int .i64 C)).setCell ⟨w11.heap.size, 1, none⟩ (.int .i64 H1)).setCell ⟨w11.heap.size, 2, none⟩ (.int .i64 ((L : Int) + 1))).setCell ⟨w11.heap.size, 3, none⟩ (.slice A3 C c3))) (w12.heap.size) 33 2 (.slice A3 C c3) (C) (flat (cellsL C H1 ((x1, x2) :: xs))) := own_far4 O13.out (by omega) _ _ _ _
              have z14 : (((((w13.setCell ⟨w11.heap.size, 0, none⟩ (.int .i64 C)).setCell ⟨w11.heap.size, 1, none⟩ (.int .i64 H1)).setCell ⟨w11.heap.size, 2, none⟩ (.int .i64 ((L : Int) + 1))).setCell ⟨w11.heap.size, 3, none⟩ (.slice A3 C c3))).heap.size = w13.heap.size := by simp
              clear D13 X13 Y13 R13 O13
              generalize (((((w13.setCell ⟨w11.heap.size, 0, none⟩ (.int .i64 C)).setCell ⟨w11.heap.size, 1, none⟩ (.int .i64 H1)).setCell ⟨w11.heap.size, 2, none⟩ (.int .i64 ((L : Int) + 1))).setCell ⟨w11.heap.size, 3, none⟩ (.slice A3 C c3))) = w14 at *
              have D14 := hide qD
              have X14 := hide qX
              have Y14 := hide qY
              have R14 := hide qR
              have O14 := hide qO
              clear qD qX qY qR qO
              have zi14 : w14.heap.size ≤ w13.heap.size ∧ w13.heap.size ≤ w14.heap.size := by omega
              clear z14
              obtain ⟨y0, y1, y2, y3⟩ := X14.out.two
              have HSLb := hide (Sl2.below_h D14.out HSL0.out)
              go_wp2_with (at_builtin; refine wpList_append_sl2 _ rfl (.tmp 65) (.tmp 66) 22 rfl w14.heap.size 33 i0 (.agg #[.int .i64 0, .int .i64 0]) 16 Try.underlying22 hi0 hz0 hz1 hz2 rfl (.slice (some ⟨w14.heap.size, 0, none⟩) 1 1) 1 (flat [(x1, x2)]) rfl (own_one_h rfl (Nat.le_refl _) (x1, x2) 33) _ Al L cl xs rfl (Sl2.alloc_h HSLb.out _) (by simp only [maxLen]; omega) (by omega) (by simp) ?_; intro v7 wQ hown7 hg7 hat7; obtain ⟨A7, c7, hv7, _, _⟩ := own_slice2 hown7; subst hv7; have hb7 : Below w14.heap.size w14 wQ := Below.grown (Bl.alloc' (Below.refl _ _) _) hg7 (by simp) (by intro t ht; simp only [Value.ownBlock, Option.some.injEq] at ht; omega); have hz7 := hb7.size)
              go_wp2_with (fail)
              go_meet
              rw [← flat_append, List.singleton_append, Nat.add_comm 1 L] at hown7
              refine ⟨Or.inl ⟨H1, L + 1, ((x1, x2) :: xs), A3, c3, A7, c7, rfl, by first | rfl | rw [Nat.add_comm], by simp [HXL.out], (own_cap hown7).1, (own_cap hown7).2, by omega, ⟨rfl, rfl, by first | rfl | (simp [HXL.out]; done) | (simp [HXL.out]; omega), hC1, by omega, hH1, by first | omega | (simp [HXL.out]; omega), rfl⟩, ?_, Sl2.own_h (own_below O14.out hb7), HF3.out, Sl2.own_h hown7, Far.own_gt hown7 (by omega)⟩, Bl.call' D14.out hb7⟩
              exact Y14.out.below hb7 Y14.out.lt
            · skip
              obtain rfl : L = C := by omega
              have CP := hide (fun (w0 : World) (hs : Sl2 w0 w0.heap.size A L (cellsL L H xs)) => pushfront_full L H A L c _ (cellsL L H xs) (x1, x2) w0 hs (Nat.le_refl _) HR.out.ok)
              unfold ErrEnd ringV itV at CP
              have hne : ((L : Int) == L) = true := by simp
              obtain ⟨p0, p1, p2, p3, p4, p5, p6, p7⟩ := R12.out.four
              obtain ⟨y0, y1, y2, y3⟩ := X12.out.two
              go_wp2_with (fail)
              refine (CP.out _ (Sl2.below_h D12.out HSA0.out)).mono ?_
              rintro e w13 ⟨rfl, hb⟩
              have zs13 := hb.size
              clear p0 p1 p2 p3 p4 p5 p6 p7 y0 y1 y2 y3
              have qD : Below wr.heap.size wr w13 := Bl.call' D12.out hb
              have qX : Blk w13 (wr.heap.size) 33 #[.int .i64 x1, .int .i64 x2] := X12.out.below hb X12.out.lt
              have qY : Blk w13 (w11.heap.size) 24 #[.int .i64 0, .int .i64 0, .int .i64 0, .slice none 0 0] := Y12.out.below hb Y12.out.lt
              have qR : Blk w13 (P) 24 #[.int .i64 L, .int .i64 H, .int .i64 L, .slice A L c] := R12.out.below hb R12.out.lt
              clear D12 X12 Y12 R12
              have D13 := hide qD
              have X13 := hide qX
              have Y13 := hide qY
              have R13 := hide qR
              clear qD qX qY qR
              clear hb
              obtain ⟨u0, u1, u2, u3, u4, u5, u6, u7⟩ := Y13.out.four
              obtain ⟨y0, y1, y2, y3⟩ := X13.out.two
              go_upto_region 20 with (fail)
              clear u0 u1 u2 u3 u4 u5 u6 u7 y0 y1 y2 y3
              have qD : Below wr.heap.size wr (((((w13.setCell ⟨w11.heap.size, 0, none⟩ (.int .i64 0)).setCell ⟨w11.heap.size, 1, none⟩ (.int .i64 0)).setCell ⟨w11.heap.size, 2, none⟩ (.int .i64 0)).setCell ⟨w11.heap.size, 3, none⟩ (.slice none 0 0))) := Bl.set4 D13.out (by omega) _ _ _ _
              have qX : Blk (((((w13.setCell ⟨w11.heap.size, 0, none⟩ (.int .i64 0)).setCell ⟨w11.heap.size, 1, none⟩ (.int .i64 0)).setCell ⟨w11.heap.size, 2, none⟩ (.int .i64 0)).setCell ⟨w11.heap.size, 3, none⟩ (.slice none 0 0))) (wr.heap.size) 33 #[.int .i64 x1, .int .i64 x2] := X13.out.far4 (by omega) _ _ _ _
              have qY : Blk (((((w13.setCell ⟨w11.heap.size, 0, none⟩ (.int .i64 0)).setCell ⟨w11.heap.size, 1, none⟩ (.int .i64 0)).setCell ⟨w11.heap.size, 2, none⟩ (.int .i64 0)).setCell ⟨w11.heap.size, 3, none⟩ (.slice none 0 0))) (w11.heap.size) 24 #[.int .i64 0, .int .i64 0, .int .i64 0, .slice none 0 0] := Y13.out.store4 _ _ _ _
              have qR : Blk (((((w13.setCell ⟨w11.heap.size, 0, none⟩ (.int .i64 0)).setCell ⟨w11.heap.size, 1, none⟩ (.int .i64 0)).setCell ⟨w11.heap.size, 2, none⟩ (.int .i64 0)).setCell ⟨w11.heap.size, 3, none⟩ (.slice none 0 0))) (P) 24 #[.int .i64 L, .int .i64 H, .int .i64 L, .slice A L c] := R13.out.far4 (by omega) _ _ _ _
              have z14 : (((((w13.setCell ⟨w11.heap.size, 0, none⟩ (.int .i64 0)).setCell ⟨w11.heap.size, 1, none⟩ (.int .i64 0)).setCell ⟨w11.heap.size, 2, none⟩ (.int .i64 0)).setCell ⟨w11.heap.size, 3, none⟩ (.slice none 0 0))).heap.size = w13.heap.size := by simp
              clear D13 X13 Y13 R13
              generalize (((((w13.setCell ⟨w11.heap.size, 0, none⟩ (.int .i64 0)).setCell ⟨w11.heap.size, 1, none⟩ (.int .i64 0)).setCell ⟨w11.heap.size, 2, none⟩ (.int .i64 0)).setCell ⟨w11.heap.size, 3, none⟩ (.slice none 0 0))) = w14 at *
              have D14 := hide qD
              have X14 := hide qX
              have Y14 := hide qY
              have R14 := hide qR
              clear qD qX qY qR
              have zi14 : w14.heap.size ≤ w13.heap.size ∧ w13.heap.size ≤ w14.heap.size := by omega
              clear z14
              obtain ⟨y0, y1, y2, y3⟩ := X14.out.two
              have HSLb := hide (Sl2.below_h D14.out HSL0.out)
              go_wp2_with (at_builtin; refine wpList_append_sl2 _ rfl (.tmp 65) (.tmp 66) 22 rfl w14.heap.size 33 i0 (.agg #[.int .i64 0, .int .i64 0]) 16 Try.underlying22 hi0 hz0 hz1 hz2 rfl (.slice (some ⟨w14.heap.size, 0, none⟩) 1 1) 1 (flat [(x1, x2)]) rfl (own_one_h rfl (Nat.le_refl _) (x1, x2) 33) _ Al L cl xs rfl (Sl2.alloc_h HSLb.out _) (by simp only [maxLen]; omega) (by omega) (by simp) ?_; intro v7 wQ hown7 hg7 hat7; obtain ⟨A7, c7, hv7, _, _⟩ := own_slice2 hown7; subst hv7; have hb7 : Below w14.heap.size w14 wQ := Below.grown (Bl.alloc' (Below.refl _ _) _) hg7 (by simp) (by intro t ht; simp only [Value.ownBlock, Option.some.injEq] at ht; omega); have hz7 := hb7.size)
              go_wp2_with (fail)
              go_meet
              exact ⟨Or.inr ⟨5, A7, _, c7, rfl, by decide, rfl, Or.inl (by omega)⟩, Bl.call' D14.out hb7⟩
          · rcases Nat.eq_zero_or_pos L with hx | hx
            · skip
              obtain rfl : L = 0 := by omega
              obtain rfl : xs = [] := List.eq_nil_of_length_eq_zero HXL.out
              have CP := hide (fun (w0 : World) (hs : Sl2 w0 w0.heap.size A C (cellsL C H [])) => popfront_empty C H A C c _ (cellsL C H []) w0 hs (Nat.le_refl _) HR.out.ok)
              unfold PopErr itV ringV at CP
              obtain ⟨p0, p1, p2, p3, p4, p5, p6, p7⟩ := R12.out.four
              go_wp2_with (fail)
              refine (CP.out _ (Sl2.below_h D12.out HSA0.out)).mono ?_
              rintro e w13 ⟨rfl, hb⟩
              have zs13 := hb.size
              clear p0 p1 p2 p3 p4 p5 p6 p7
              have qD : Below wr.heap.size wr w13 := Bl.call' D12.out hb
              have qX : Blk w13 (wr.heap.size) 33 #[.int .i64 x1, .int .i64 x2] := X12.out.below hb X12.out.lt
              have qY : Blk w13 (w11.heap.size) 24 #[.int .i64 0, .int .i64 0, .int .i64 0, .slice none 0 0] := Y12.out.below hb Y12.out.lt
              have qR : Blk w13 (P) 24 #[.int .i64 C, .int .i64 H, .int .i64 0, .slice A C c] := R12.out.below hb R12.out.lt
              clear D12 X12 Y12 R12
              have D13 := hide qD
              have X13 := hide qX
              have Y13 := hide qY
              have R13 := hide qR
              clear qD qX qY qR
              clear hb
              obtain ⟨u0, u1, u2, u3, u4, u5, u6, u7⟩ := Y13.out.four
              go_upto_region 23 with (fail)
              clear u0 u1 u2 u3 u4 u5 u6 u7
              have qD : Below wr.heap.size wr (((((w13.setCell ⟨w11.heap.size, 0, none⟩ (.int .i64 0)).setCell ⟨w11.heap.size, 1, none⟩ (.int .i64 0)).setCell ⟨w11.heap.size, 2, none⟩ (.int .i64 0)).setCell ⟨w11.heap.size, 3, none⟩ (.slice none 0 0))) := Bl.set4 D13.out (by omega) _ _ _ _
              have qX : Blk (((((w13.setCell ⟨w11.heap.size, 0, none⟩ (.int .i64 0)).setCell ⟨w11.heap.size, 1, none⟩ (.int .i64 0)).setCell ⟨w11.heap.size, 2, none⟩ (.int .i64 0)).setCell ⟨w11.heap.size, 3, none⟩ (.slice none 0 0))) (wr.heap.size) 33 #[.int .i64 x1, .int .i64 x2] := X13.out.far4 (by omega) _ _ _ _
              have qY : Blk (((((w13.setCell ⟨w11.heap.size, 0, none⟩ (.int .i64 0)).setCell ⟨w11.heap.size, 1, none⟩ (.int .i64 0)).setCell ⟨w11.heap.size, 2, none⟩ (.int .i64 0)).setCell ⟨w11.heap.size, 3, none⟩ (.slice none 0 0))) (w11.heap.size) 24 #[.int .i64 0, .int .i64 0, .int .i64 0, .slice none 0 0] := Y13.out.store4 _ _ _ _
              have qR : Blk (((((w13.setCell ⟨w11.heap.size, 0, none⟩ (.int .i64 0)).setCell ⟨w11.heap.size, 1, none⟩ (.int .i64 0)).setCell ⟨w11.heap.size, 2, none⟩ (.int .i64 0)).setCell ⟨w11.heap.size, 3, none⟩ (.slice none 0 0))) (P) 24 #[.int .i64 C, .int .i64 H, .int .i64 0, .slice A C c] := R13.out.far4 (by omega) _ _ _ _
              have z14 : (((((w13.setCell ⟨w11.heap.size, 0, none⟩ (.int .i64 0)).setCell ⟨w11.heap.size, 1, none⟩ (.int .i64 0)).setCell ⟨w11.heap.size, 2, none⟩ (.int .i64 0)).setCell ⟨w11.heap.size, 3, none⟩ (.slice none 0 0))).heap.size = w13.heap.size := by simp
              clear D13 X13 Y13 R13
              generalize (((((w13.setCell ⟨w11.heap.size, 0, none⟩ (.int .i64 0)).setCell ⟨w11.heap.size, 1, none⟩ (.int .i64 0)).setCell ⟨w11.heap.size, 2, none⟩ (.int .i64 0)).setCell ⟨w11.heap.size, 3, none⟩ (.slice none 0 0))) = w14 at *
              have D14 := hide qD
              have X14 := hide qX
              have Y14 := hide qY
              have R14 := hide qR
              clear qD qX qY qR
              have zi14 : w14.heap.size ≤ w13.heap.size ∧ w13.heap.size ≤ w14.heap.size := by omega
              clear z14
              have hcc : (0 : Int) ≤ cl := by omega
              go_wp2_with (fail)
              go_meet
              exact ⟨Or.inr ⟨7, _, _, _, rfl, by decide, rfl, Or.inr rfl⟩, D14.out⟩
            · skip
              obtain ⟨K, rfl⟩ : ∃ K, L = K + 1 := ⟨L - 1, by omega⟩
              obtain ⟨x, t, rfl⟩ : ∃ x t, xs = x :: t := by cases xs with | nil => (have := HXL.out; simp at this) | cons x t => exact ⟨x, t, rfl⟩
              have htl : t.length = K := by have := HXL.out; simpa using this
              have HTL := hide htl
              have CP := hide (fun (w0 : World) (hs : Sl2 w0 w0.heap.size A C (cellsL C H (x :: t))) => popfront_ok C H t x A c _ w0 hs (Nat.le_refl _) (by rw [htl]; exact HR.out))
              unfold PopEnd itV ringV at CP
              rw [htl] at CP
              clear htl
              have hH1 : (H + 1) % C < C := Nat.mod_lt _ (by omega)
              generalize (H + 1) % C = H1 at *
              have R12 : Hid (Blk w12 P 24 #[.int .i64 C, .int .i64 H, .int .i64 ((K : Int) + 1), .slice A C c]) := R12
              obtain ⟨p0, p1, p2, p3, p4, p5, p6, p7⟩ := R12.out.four
              go_wp2_with (fail)
              refine (CP.out _ (Sl2.below_h D12.out HSA0.out)).mono ?_
              rintro e w13 ⟨A3, c3, rfl, hown, hb⟩
              have zs13 := hb.size
              clear p0 p1 p2 p3 p4 p5 p6 p7
              have qD : Below wr.heap.size wr w13 := Bl.call' D12.out hb
              have qX : Blk w13 (wr.heap.size) 33 #[.int .i64 x1, .int .i64 x2] := X12.out.below hb X12.out.lt
              have qY : Blk w13 (w11.heap.size) 24 #[.int .i64 0, .int .i64 0, .int .i64 0, .slice none 0 0] := Y12.out.below hb Y12.out.lt
              have qR : Blk w13 (P) 24 #[.int .i64 C, .int .i64 H, .int .i64 ((K : Int) + 1), .slice A C c] := R12.out.below hb R12.out.lt
              have qO : World.ownsRow w13 (w12.heap.size) 33 2 (.slice A3 C c3) (C) (flat (cellsL C H1 t)) := hown
              clear D12 X12 Y12 R12
              have D13 := hide qD
              have X13 := hide qX
              have Y13 := hide qY
              have R13 := hide qR
              have O13 := hide qO
              clear qD qX qY qR qO
              clear hb
              have HF3 := hide (Far.own_gt (P := P) hown (by omega))
              clear hown
              obtain ⟨u0, u1, u2, u3, u4, u5, u6, u7⟩ := Y13.out.four
              go_upto_region 23 with (fail)
              clear u0 u1 u2 u3 u4 u5 u6 u7
              have qD : Below wr.heap.size wr (((((w13.setCell ⟨w11.heap.size, 0, none⟩ (.int .i64 C)).setCell ⟨w11.heap.size, 1, none⟩ (.int .i64 H1)).setCell ⟨w11.heap.size, 2, none⟩ (.int .i64 K)).setCell ⟨w11.heap.size, 3, none⟩ (.slice A3 C c3))) := Bl.set4 D13.out (by omega) _ _ _ _
              have qX : Blk (((((w13.setCell ⟨w11.heap.size, 0, none⟩ (.int .i64 C)).setCell ⟨w11.heap.size, 1, none⟩ (.int .i64 H1)).setCell ⟨w11.heap.size, 2, none⟩ (.int .i64 K)).setCell ⟨w11.heap.size, 3, none⟩ (.slice A3 C c3))) (wr.heap.size) 33 #[.int .i64 x1, .int .i64 x2] := X13.out.far4 (by omega) _ _ _ _
              have qY : Blk (((((w13.setCell ⟨w11.heap.size, 0, none⟩ (.int .i64 C)).setCell ⟨w11.heap.size, 1, none⟩ (.int .i64 H1)).setCell ⟨w11.heap.size, 2, none⟩ (.int .i64 K)).setCell ⟨w11.heap.size, 3, none⟩ (.slice A3 C c3))) (w11.heap.size) 24 #[.int .i64 C, .int .i64 H1, .int .i64 K, .slice A3 C c3] := Y13.out.store4 _ _ _ _
              have qR : Blk (((((w13.setCell ⟨w11.heap.size, 0, none⟩ (.int .i64 C)).setCell ⟨w11.heap.size, 1, none⟩ (.int .i64 H1)).setCell ⟨w11.heap.size, 2, none⟩ (.int .i64 K)).setCell ⟨w11.heap.size, 3, none⟩ (.slice A3 C c3))) (P) 24 #[.int .i64 C, .int .i64 H, .int .i64 ((K : Int) + 1), .slice A C c] := R13.out.far4 (by omega) _ _ _ _
              have qO : World.ownsRow (((((w13.setCell ⟨w11.heap.size, 0, none⟩ (.int .i64 C)).setCell ⟨w11.heap.size, 1, none⟩ (.int .i64 H1)).setCell ⟨w11.heap.size, 2, none⟩ (.int .i64 K)).setCell ⟨w11.heap.size, 3, none⟩ (.slice A3 C c3))) (w12.heap.size) 33 2 (.slice A3 C c3) (C) (flat (cellsL C H1 t)) := own_far4 O13.out (by omega) _ _ _ _
              have z14 : (((((w13.setCell ⟨w11.heap.size, 0, none⟩ (.int .i64 C)).setCell ⟨w11.heap.size, 1, none⟩ (.int .i64 H1)).setCell ⟨w11.heap.size, 2, none⟩ (.int .i64 K)).setCell ⟨w11.heap.size, 3, none⟩ (.slice A3 C c3))).heap.size = w13.heap.size := by simp
              clear D13 X13 Y13 R13 O13
              generalize (((((w13.setCell ⟨w11.heap.size, 0, none⟩ (.int .i64 C)).setCell ⟨w11.heap.size, 1, none⟩ (.int .i64 H1)).setCell ⟨w11.heap.size, 2, none⟩ (.int .i64 K)).setCell ⟨w11.heap.size, 3, none⟩ (.slice A3 C c3))) = w14 at *
              have D14 := hide qD
              have X14 := hide qX
              have Y14 := hide qY
              have R14 := hide qR
              have O14 := hide qO
              clear qD qX qY qR qO
              have zi14 : w14.heap.size ≤ w13.heap.size ∧ w13.heap.size ≤ w14.heap.size := by omega
              clear z14
              obtain ⟨i1, i2, i3, i4, i5, i6, i7, i8⟩ := slice_facts K
              have hmn : min (1 : Int) ((K : Int) + 1) = 1 := by omega
              have hmx : max (0 : Int) (K : Int) = K := by omega
              have hcb : (K : Int) ≤ cl := by omega
              have hcb1 : (K : Int) + 1 ≤ cl := by omega
              have hcb2 : (1 : Int) ≤ cl := by omega
              have hcn : K ≤ cl := by omega
              have hcc : (0 : Int) ≤ cl := by omega
              by_cases hcap : cl = 1
              · subst hcap
                go_wp2_with (fail)
                go_meet
                have htail := And.intro (Sl2.tail (Sl2.below_h D14.out HSL0.out) hlc) (Far.tail (c := 1) HFL.out)
                simp only [if_true] at htail
                obtain rfl : K = 0 := by omega
                refine ⟨Or.inl ⟨H1, 0, t, A3, c3, _, 0, rfl, rfl, HTL.out, by omega, by first | exact Nat.zero_le _ | omega, by omega, ⟨rfl, rfl, by rw [HTL.out], hC1, by omega, hH1, by rw [HTL.out]; omega, rfl⟩, Y14.out, Sl2.own_h O14.out, HF3.out, htail.1, htail.2⟩, D14.out⟩
              · skip
                go_wp2_with (fail)
                go_meet
                have htail := And.intro (Sl2.tail (Sl2.below_h D14.out HSL0.out) hlc) (Far.tail (c := cl) HFL.out)
                simp only [hcap, if_false] at htail
                refine ⟨Or.inl ⟨H1, K, t, A3, c3, _, _, rfl, rfl, HTL.out, by omega, by first | exact Nat.zero_le _ | omega, by omega, ⟨rfl, rfl, by rw [HTL.out], hC1, by omega, hH1, by rw [HTL.out]; omega, rfl⟩, Y14.out, Sl2.own_h O14.out, HF3.out, htail.1, htail.2⟩, D14.out⟩
          · rcases Nat.eq_zero_or_pos L with hx | hx
            · skip
              obtain rfl : L = 0 := by omega
              obtain rfl : xs = [] := List.eq_nil_of_length_eq_zero HXL.out
              have CP := hide (fun (w0 : World) (hs : Sl2 w0 w0.heap.size A C (cellsL C H [])) => popback_empty C H A C c _ (cellsL C H []) w0 hs (Nat.le_refl _) HR.out.ok)
              unfold PopErr itV ringV at CP
              obtain ⟨p0, p1, p2, p3, p4, p5, p6, p7⟩ := R12.out.four
              go_wp2_with (fail)
              refine (CP.out _ (Sl2.below_h D12.out HSA0.out)).mono ?_
              rintro e w13 ⟨rfl, hb⟩
              have zs13 := hb.size
              clear p0 p1 p2 p3 p4 p5 p6 p7
              have qD : Below wr.heap.size wr w13 := Bl.call' D12.out hb
              have qX : Blk w13 (wr.heap.size) 33 #[.int .i64 x1, .int .i64 x2] := X12.out.below hb X12.out.lt
              have qY : Blk w13 (w11.heap.size) 24 #[.int .i64 0, .int .i64 0, .int .i64 0, .slice none 0 0] := Y12.out.below hb Y12.out.lt
              have qR : Blk w13 (P) 24 #[.int .i64 C, .int .i64 H, .int .i64 0, .slice A C c] := R12.out.below hb R12.out.lt
              clear D12 X12 Y12 R12
              have D13 := hide qD
              have X13 := hide qX
              have Y13 := hide qY
              have R13 := hide qR
              clear qD qX qY qR
              clear hb
              obtain ⟨u0, u1, u2, u3, u4, u5, u6, u7⟩ := Y13.out.four
              go_upto_region 26 with (fail)
              clear u0 u1 u2 u3 u4 u5 u6 u7
              have qD : Below wr.heap.size wr (((((w13.setCell ⟨w11.heap.size, 0, none⟩ (.int .i64 0)).setCell ⟨w11.heap.size, 1, none⟩ (.int .i64 0)).setCell ⟨w11.heap.size, 2, none⟩ (.int .i64 0)).setCell ⟨w11.heap.size, 3, none⟩ (.slice none 0 0))) := Bl.set4 D13.out (by omega) _ _ _ _
              have qX : Blk (((((w13.setCell ⟨w11.heap.size, 0, none⟩ (.int .i64 0)).setCell ⟨w11.heap.size, 1, none⟩ (.int .i64 0)).setCell ⟨w11.heap.size, 2, none⟩ (.int .i64 0)).setCell ⟨w11.heap.size, 3, none⟩ (.slice none 0 0))) (wr.heap.size) 33 #[.int .i64 x1, .int .i64 x2] := X13.out.far4 (by omega) _ _ _ _
              have qY : Blk (((((w13.setCell ⟨w11.heap.size, 0, none⟩ (.int .i64 0)).setCell ⟨w11.heap.size, 1, none⟩ (.int .i64 0)).setCell ⟨w11.heap.size, 2, none⟩ (.int .i64 0)).setCell ⟨w11.heap.size, 3, none⟩ (.slice none 0 0))) (w11.heap.size) 24 #[.int .i64 0, .int .i64 0, .int .i64 0, .slice none 0 0] := Y13.out.store4 _ _ _ _
              have qR : Blk (((((w13.setCell ⟨w11.heap.size, 0, none⟩ (.int .i64 0)).setCell ⟨w11.heap.size, 1, none⟩ (.int .i64 0)).setCell ⟨w11.heap.size, 2, none⟩ (.int .i64 0)).setCell ⟨w11.heap.size, 3, none⟩ (.slice none 0 0))) (P) 24 #[.int .i64 C, .int .i64 H, .int .i64 0, .slice A C c] := R13.out.far4 (by omega) _ _ _ _
              have z14 : (((((w13.setCell ⟨w11.heap.size, 0, none⟩ (.int .i64 0)).setCell ⟨w11.heap.size, 1, none⟩ (.int .i64 0)).setCell ⟨w11.heap.size, 2, none⟩ (.int .i64 0)).setCell ⟨w11.heap.size, 3, none⟩ (.slice none 0 0))).heap.size = w13.heap.size := by simp
              clear D13 X13 Y13 R13
              generalize (((((w13.setCell ⟨w11.heap.size, 0, none⟩ (.int .i64 0)).setCell ⟨w11.heap.size, 1, none⟩ (.int .i64 0)).setCell ⟨w11.heap.size, 2, none⟩ (.int .i64 0)).setCell ⟨w11.heap.size, 3, none⟩ (.slice none 0 0))) = w14 at *
              have D14 := hide qD
              have X14 := hide qX
              have Y14 := hide qY
              have R14 := hide qR
              clear qD qX qY qR
              have zi14 : w14.heap.size ≤ w13.heap.size ∧ w13.heap.size ≤ w14.heap.size := by omega
              clear z14
              have hcc : (0 : Int) ≤ cl := by omega
              go_wp2_with (fail)
              go_meet
              exact ⟨Or.inr ⟨7, _, _, _, rfl, by decide, rfl, Or.inr rfl⟩, D14.out⟩
            · skip
              obtain ⟨K, rfl⟩ : ∃ K, L = K + 1 := ⟨L - 1, by omega⟩
              obtain ⟨t, x, rfl, _⟩ := split_last HXL.out
              have htl : t.length = K := by have := HXL.out; simpa using this
              have HTL := hide htl
              have CP := hide (fun (w0 : World) (hs : Sl2 w0 w0.heap.size A C (cellsL C H (t ++ [x]))) => popback_ok C H t x A c _ w0 hs (Nat.le_refl _) (by rw [htl]; exact HR.out))
              unfold PopEnd itV ringV at CP
              rw [htl] at CP
              clear htl
              have R12 : Hid (Blk w12 P 24 #[.int .i64 C, .int .i64 H, .int .i64 ((K : Int) + 1), .slice A C c]) := R12
              obtain ⟨p0, p1, p2, p3, p4, p5, p6, p7⟩ := R12.out.four
              go_wp2_with (fail)
              refine (CP.out _ (Sl2.below_h D12.out HSA0.out)).mono ?_
              rintro e w13 ⟨A3, c3, rfl, hown, hb⟩
              have zs13 := hb.size
              clear p0 p1 p2 p3 p4 p5 p6 p7
              have qD : Below wr.heap.size wr w13 := Bl.call' D12.out hb
              have qX : Blk w13 (wr.heap.size) 33 #[.int .i64 x1, .int .i64 x2] := X12.out.below hb X12.out.lt
              have qY : Blk w13 (w11.heap.size) 24 #[.int .i64 0, .int .i64 0, .int .i64 0, .slice none 0 0] := Y12.out.below hb Y12.out.lt
              have qR : Blk w13 (P) 24 #[.int .i64 C, .int .i64 H, .int .i64 ((K : Int) + 1), .slice A C c] := R12.out.below hb R12.out.lt
              have qO : World.ownsRow w13 (w12.heap.size) 33 2 (.slice A3 C c3) (C) (flat (cellsL C H t)) := hown
              clear D12 X12 Y12 R12
              have D13 := hide qD
              have X13 := hide qX
              have Y13 := hide qY
              have R13 := hide qR
              have O13 := hide qO
              clear qD qX qY qR qO
              clear hb
              have HF3 := hide (Far.own_gt (P := P) hown (by omega))
              clear hown
              obtain ⟨u0, u1, u2, u3, u4, u5, u6, u7⟩ := Y13.out.four
              go_upto_region 26 with (fail)
              clear u0 u1 u2 u3 u4 u5 u6 u7
              have qD : Below wr.heap.size wr (((((w13.setCell ⟨w11.heap.size, 0, none⟩ (.int .i64 C)).setCell ⟨w11.heap.size, 1, none⟩ (.int .i64 H)).setCell ⟨w11.heap.size, 2, none⟩ (.int .i64 K)).setCell ⟨w11.heap.size, 3, none⟩ (.slice A3 C c3))) := Bl.set4 D13.out (by omega) _ _ _ _
              have qX : Blk (((((w13.setCell ⟨w11.heap.size, 0, none⟩ (.int .i64 C)).setCell ⟨w11.heap.size, 1, none⟩ (.int .i64 H)).setCell ⟨w11.heap.size, 2, none⟩ (.int .i64 K)).setCell ⟨w11.heap.size, 3, none⟩ (.slice A3 C c3))) (wr.heap.size) 33 #[.int .i64 x1, .int .i64 x2] := X13.out.far4 (by omega) _ _ _ _
              have qY : Blk (((((w13.setCell ⟨w11.heap.size, 0, none⟩ (.int .i64 C)).setCell ⟨w11.heap.size, 1, none⟩ (.int .i64 H)).setCell ⟨w11.heap.size, 2, none⟩ (.int .i64 K)).setCell ⟨w11.heap.size, 3, none⟩ (.slice A3 C c3))) (w11.heap.size) 24 #[.int .i64 C, .int .i64 H, .int .i64 K, .slice A3 C c3] := Y13.out.store4 _ _ _ _
              have qR : Blk (((((w13.setCell ⟨w11.heap.size, 0, none⟩ (.int .i64 C)).setCell ⟨w11.heap.size, 1, none⟩ (.int .i64 H)).setCell ⟨w11.heap.size, 2, none⟩ (.int .i64 K)).setCell ⟨w11.heap.size, 3, none⟩ (.slice A3 C c3))) (P) 24 #[.int .i64 C, .int .i64 H, .int .i64 ((K : Int) + 1), .slice A C c] := R13.out.far4 (by omega) _ _ _ _
              have qO : World.ownsRow (((((w13.setCell ⟨w11.heap.size, 0, none⟩ (.int .i64 C)).setCell ⟨w11.heap.size, 1, none⟩ (.int .i64 H)).setCell ⟨w11.heap.size, 2, none⟩ (.int .i64 K)).setCell ⟨w11.heap.size, 3, none⟩ (.slice A3 C c3))) (w12.heap.size) 33 2 (.slice A3 C c3) (C) (flat (cellsL C H t)) := own_far4 O13.out (by omega) _ _ _ _
              have z14 : (((((w13.setCell ⟨w11.heap.size, 0, none⟩ (.int .i64 C)).setCell ⟨w11.heap.size, 1, none⟩ (.int .i64 H)).setCell ⟨w11.heap.size, 2, none⟩ (.int .i64 K)).setCell ⟨w11.heap.size, 3, none⟩ (.slice A3 C c3))).heap.size = w13.heap.size := by simp
              clear D13 X13 Y13 R13 O13
              generalize (((((w13.setCell ⟨w11.heap.size, 0, none⟩ (.int .i64 C)).setCell ⟨w11.heap.size, 1, none⟩ (.int .i64 H)).setCell ⟨w11.heap.size, 2, none⟩ (.int .i64 K)).setCell ⟨w11.heap.size, 3, none⟩ (.slice A3 C c3))) = w14 at *
              have D14 := hide qD
              have X14 := hide qX
              have Y14 := hide qY
              have R14 := hide qR
              have O14 := hide qO
              clear qD qX qY qR qO
              have zi14 : w14.heap.size ≤ w13.heap.size ∧ w13.heap.size ≤ w14.heap.size := by omega
              clear z14
              obtain ⟨i1, i2, i3, i4, i5, i6, i7, i8⟩ := slice_facts K
              have hmn : min (1 : Int) ((K : Int) + 1) = 1 := by omega
              have hmx : max (0 : Int) (K : Int) = K := by omega
              have hcb : (K : Int) ≤ cl := by omega
              have hcb1 : (K : Int) + 1 ≤ cl := by omega
              have hcb2 : (1 : Int) ≤ cl := by omega
              have hcn : K ≤ cl := by omega
              have hcc : (0 : Int) ≤ cl := by omega
              go_wp2_with (fail)
              all_goals go_meet
              all_goals have htail := And.intro (Sl2.init (Sl2.below_h D14.out HSL0.out)) HFL.out
              · refine ⟨Or.inl ⟨H, K, t, A3, c3, _, _, rfl, rfl, HTL.out, by omega, by first | exact Nat.zero_le _ | omega, by omega, ⟨rfl, rfl, by rw [HTL.out], hC1, by omega, hH, by rw [HTL.out]; omega, rfl⟩, Y14.out, Sl2.own_h O14.out, HF3.out, htail.1, htail.2⟩, D14.out⟩
              · obtain rfl : K = 0 := by omega
                refine ⟨Or.inl ⟨H, 0, t, A3, c3, _, _, rfl, rfl, HTL.out, by omega, by first | exact Nat.zero_le _ | omega, by omega, ⟨rfl, rfl, by rw [HTL.out], hC1, by omega, hH, by rw [HTL.out]; omega, rfl⟩, Y14.out, Sl2.own_h O14.out, HF3.out, htail.1, htail.2⟩, D14.out⟩
        case rest =>
          obtain ⟨hsw, hbx⟩ := hcut
          obtain ⟨wv, rfl⟩ : ∃ wv : World, wv = wc := ⟨_, rfl⟩
          obtain ⟨_, hxl, _, _, hrg0, hbk, hsa, hfa, hsl, hfl, _⟩ := HRI.out
          have hLC : L ≤ C := by have := hrg0.fits; omega
          have hB := HB.out.trans (hbx.mono HB.out.size)
          have hk2 := hbk.below hbx hPlt
          have hszx := hbx.size
          rcases hsw with hok | hno
          · obtain ⟨H', M, ys, Ay, cy, Aw, cw, rfl, rfl, hyl, hMc, hMm, hML, hrg, hyk, hsy, hfy, hsw, hfw⟩ := hok
            have hMC : M ≤ C := by have := hrg.fits; omega
            have HFY := hide hfy
            have HFW := hide hfw
            have HYL := hide hyl
            have HRG := hide hrg
            have R30 := hide hk2
            have Y30 := hide hyk
            have S30 := hide hsy
            have T30 := hide hsw
            have B30 := hide hB
            clear hxl hrg0 hbk hsa hfa hsl hfl hB hk2 hbx hyl hrg hyk hsy hfy hsw hfw
            have b1 : decide ((M : Int) ≤ C) = true := by simp; omega
            have b2 : decide (M ≤ C) = true := by simp; omega
            have b3 : ((M : Int) != L) = true := by simp; omega
            have b4 : ¬ M = L := hML
            obtain ⟨p0, p1, p2, p3, p4, p5, p6, p7⟩ := R30.out.four
            obtain ⟨y0, y1, y2, y3, y4, y5, y6, y7⟩ := Y30.out.four
            go_upto_region 31 with (fail)
            clear p0 p1 p2 p3 p4 p5 p6 p7 y0 y1 y2 y3 y4 y5 y6 y7
            have qR : Blk (((((wv.setCell ⟨P, 0, none⟩ (.int .i64 C)).setCell ⟨P, 1, none⟩ (.int .i64 H')).setCell ⟨P, 2, none⟩ (.int .i64 M)).setCell ⟨P, 3, none⟩ (.slice Ay C cy))) (P) 24 #[.int .i64 C, .int .i64 H', .int .i64 M, .slice Ay C cy] := R30.out.store4 _ _ _ _
            have qS : Sl2 (((((wv.setCell ⟨P, 0, none⟩ (.int .i64 C)).setCell ⟨P, 1, none⟩ (.int .i64 H')).setCell ⟨P, 2, none⟩ (.int .i64 M)).setCell ⟨P, 3, none⟩ (.slice Ay C cy))) (((((wv.setCell ⟨P, 0, none⟩ (.int .i64 C)).setCell ⟨P, 1, none⟩ (.int .i64 H')).setCell ⟨P, 2, none⟩ (.int .i64 M)).setCell ⟨P, 3, none⟩ (.slice Ay C cy))).heap.size Ay (C) (cellsL C H' ys) := Sl2.set4_far S30.out HFY.out _ _ _ _
            have qT : Sl2 (((((wv.setCell ⟨P, 0, none⟩ (.int .i64 C)).setCell ⟨P, 1, none⟩ (.int .i64 H')).setCell ⟨P, 2, none⟩ (.int .i64 M)).setCell ⟨P, 3, none⟩ (.slice Ay C cy))) (((((wv.setCell ⟨P, 0, none⟩ (.int .i64 C)).setCell ⟨P, 1, none⟩ (.int .i64 H')).setCell ⟨P, 2, none⟩ (.int .i64 M)).setCell ⟨P, 3, none⟩ (.slice Ay C cy))).heap.size Aw (M) ys := Sl2.set4_far T30.out HFW.out _ _ _ _
            have qB : Below w.heap.size w (((((wv.setCell ⟨P, 0, none⟩ (.int .i64 C)).setCell ⟨P, 1, none⟩ (.int .i64 H')).setCell ⟨P, 2, none⟩ (.int .i64 M)).setCell ⟨P, 3, none⟩ (.slice Ay C cy))) := Bl.set4 B30.out hPw _ _ _ _
            clear R30 Y30 S30 T30 B30
            generalize (((((wv.setCell ⟨P, 0, none⟩ (.int .i64 C)).setCell ⟨P, 1, none⟩ (.int .i64 H')).setCell ⟨P, 2, none⟩ (.int .i64 M)).setCell ⟨P, 3, none⟩ (.slice Ay C cy))) = w31 at *
            have R31 := hide qR
            have S31 := hide qS
            have T31 := hide qT
            have B31 := hide qB
            clear qR qS qT qB
            clear b1 b2 b3 b4
            obtain ⟨p0, p1, p2, p3, p4, p5, p6, p7⟩ := R31.out.four
            have CI := hide (fun (w0 : World) (hs : Sl2 w0 w0.heap.size Ay C (cellsL C H' ys)) => items_ok C H' ys Ay cy _ w0 hs (Nat.le_refl _) (by rw [HYL.out]; exact HRG.out))
            unfold ListEnd ringV at CI
            rw [HYL.out] at CI
            go_wp2_with (fail)
            refine (CI.out _ S31.out).mono ?_
            rintro e w32 ⟨A5, c5, rfl, hown, hb⟩
            have zs32 := hb.size
            clear p0 p1 p2 p3 p4 p5 p6 p7
            have qR : Blk w32 (P) 24 #[.int .i64 C, .int .i64 H', .int .i64 M, .slice Ay C cy] := R31.out.below hb R31.out.lt
            have qS : Sl2 w32 w32.heap.size Ay (C) (cellsL C H' ys) := Sl2.below_h hb S31.out
            have qT : Sl2 w32 w32.heap.size Aw (M) ys := Sl2.below_h hb T31.out
            have qB : Below w.heap.size w w32 := Bl.call' B31.out hb
            have qU : Sl2 w32 w32.heap.size A5 (M) ys := Sl2.own_h hown
            clear R31 S31 T31 B31
            have R32 := hide qR
            have S32 := hide qS
            have T32 := hide qT
            have B32 := hide qB
            have U32 := hide qU
            clear qR qS qT qB qU
            clear hb
            clear hown
            have C23 := hide (same_any A5 Aw M c5 _ M cw _ ys ys w32 U32.out (by omega) T32.out (by omega))
            unfold SameEnd at C23
            rw [decide_eq_true rfl] at C23
            go_wp2_with (fail)
            refine C23.out.mono ?_
            rintro e w33 ⟨rfl, q, hq⟩
            have hb : Below w32.heap.size w32 w33 := by rw [hq]; exact below_drewN (Below.refl _ _) _
            clear hq C23
            have qR : Blk w33 (P) 24 #[.int .i64 C, .int .i64 H', .int .i64 M, .slice Ay C cy] := R32.out.below hb R32.out.lt
            have qS : Sl2 w33 w33.heap.size Ay (C) (cellsL C H' ys) := Sl2.below_h hb S32.out
            have qT : Sl2 w33 w33.heap.size Aw (M) ys := Sl2.below_h hb T32.out
            have qB : Below w.heap.size w w33 := Bl.call' B32.out hb
            have qU : Sl2 w33 w33.heap.size A5 (M) ys := Sl2.below_h hb U32.out
            clear R32 S32 T32 B32 U32
            have R33 := hide qR
            have S33 := hide qS
            have T33 := hide qT
            have B33 := hide qB
            have U33 := hide qU
            clear qR qS qT qB qU
            clear hb
            go_wp2
            go_roundw
            case rel => exact ⟨j + 1, by go_num, by omega, H', M, ys, Ay, cy, Aw, cw, rfl, HYL.out, hMc, by first | omega | (unfold maxLen at *; omega), HRG.out, R33.out, S33.out, HFY.out, T33.out, HFW.out, B33.out⟩
            case measure => simp [intOf]; omega
          · obtain ⟨k, Aw, nw, cw, rfl, hk0, rfl, hor⟩ := hno
            have HFA := hide hfa
            have HFL := hide hfl
            have HYL := hide hxl
            have HRG := hide hrg0
            have HOR := hide hor
            have R30 := hide hk2
            have S30 := hide (Sl2.below_h hbx hsa)
            have T30 := hide (Sl2.below_h hbx hsl)
            have B30 := hide hB
            clear hxl hrg0 hbk hsa hfa hsl hfl hB hk2 hbx hor
            have b0 : (k == 0) = false := by simpa using hk0
            rcases HOR.out with hgt | heq
            · have b1 : decide ((nw : Int) ≤ C) = false := by simp; omega
              have b2 : decide (nw ≤ C) = false := by simp; omega
              obtain ⟨p0, p1, p2, p3, p4, p5, p6, p7⟩ := R30.out.four
              have CI := hide (fun (w0 : World) (hs : Sl2 w0 w0.heap.size A C (cellsL C H xs)) => items_ok C H xs A c _ w0 hs (Nat.le_refl _) (by rw [HYL.out]; exact HRG.out))
              unfold ListEnd ringV at CI
              rw [HYL.out] at CI
              go_wp2_with (fail)
              refine (CI.out _ S30.out).mono ?_
              rintro e w31 ⟨A5, c5, rfl, hown, hb⟩
              have zs31 := hb.size
              clear p0 p1 p2 p3 p4 p5 p6 p7
              have qR : Blk w31 (P) 24 #[.int .i64 C, .int .i64 H, .int .i64 L, .slice A C c] := R30.out.below hb R30.out.lt
              have qS : Sl2 w31 w31.heap.size A (C) (cellsL C H xs) := Sl2.below_h hb S30.out
              have qT : Sl2 w31 w31.heap.size Al (L) xs := Sl2.below_h hb T30.out
              have qB : Below w.heap.size w w31 := Bl.call' B30.out hb
              have qU : Sl2 w31 w31.heap.size A5 (L) xs := Sl2.own_h hown
              clear R30 S30 T30 B30
              have R31 := hide qR
              have S31 := hide qS
              have T31 := hide qT
              have B31 := hide qB
              have U31 := hide qU
              clear qR qS qT qB qU
              clear hb
              clear hown
              have C23 := hide (same_any A5 Al L c5 _ L cl _ xs xs w31 U31.out (by omega) T31.out (by omega))
              unfold SameEnd at C23
              rw [decide_eq_true rfl] at C23
              go_wp2_with (fail)
              refine C23.out.mono ?_
              rintro e w32 ⟨rfl, q, hq⟩
              have hb : Below w31.heap.size w31 w32 := by rw [hq]; exact below_drewN (Below.refl _ _) _
              clear hq C23
              have qR : Blk w32 (P) 24 #[.int .i64 C, .int .i64 H, .int .i64 L, .slice A C c] := R31.out.below hb R31.out.lt
              have qS : Sl2 w32 w32.heap.size A (C) (cellsL C H xs) := Sl2.below_h hb S31.out
              have qT : Sl2 w32 w32.heap.size Al (L) xs := Sl2.below_h hb T31.out
              have qB : Below w.heap.size w w32 := Bl.call' B31.out hb
              have qU : Sl2 w32 w32.heap.size A5 (L) xs := Sl2.below_h hb U31.out
              clear R31 S31 T31 B31 U31
              have R32 := hide qR
              have S32 := hide qS
              have T32 := hide qT
              have B32 := hide qB
              have U32 := hide qU
              clear qR qS qT qB qU
              clear hb
              go_wp2
              go_roundw
              case rel => exact ⟨j + 1, by go_num, by omega, H, L, xs, A, c, Al, cl, rfl, HYL.out, hlc, by first | omega | (unfold maxLen at *; omega), HRG.out, R32.out, S32.out, HFA.out, T32.out, HFL.out, B32.out⟩
              case measure => simp [intOf]; omega
            · subst heq
              have b1 : decide ((nw : Int) ≤ C) = true := by simp; omega
              have b2 : decide (nw ≤ C) = true := by simp; omega
              have b3 : ((nw : Int) != nw) = false := by simp
              obtain ⟨p0, p1, p2, p3, p4, p5, p6, p7⟩ := R30.out.four
              have CI := hide (fun (w0 : World) (hs : Sl2 w0 w0.heap.size A C (cellsL C H xs)) => items_ok C H xs A c _ w0 hs (Nat.le_refl _) (by rw [HYL.out]; exact HRG.out))
              unfold ListEnd ringV at CI
              rw [HYL.out] at CI
              go_wp2_with (fail)
              refine (CI.out _ S30.out).mono ?_
              rintro e w31 ⟨A5, c5, rfl, hown, hb⟩
              have zs31 := hb.size
              clear p0 p1 p2 p3 p4 p5 p6 p7
              have qR : Blk w31 (P) 24 #[.int .i64 C, .int .i64 H, .int .i64 nw, .slice A C c] := R30.out.below hb R30.out.lt
              have qS : Sl2 w31 w31.heap.size A (C) (cellsL C H xs) := Sl2.below_h hb S30.out
              have qT : Sl2 w31 w31.heap.size Al (nw) xs := Sl2.below_h hb T30.out
              have qB : Below w.heap.size w w31 := Bl.call' B30.out hb
              have qU : Sl2 w31 w31.heap.size A5 (nw) xs := Sl2.own_h hown
              clear R30 S30 T30 B30
              have R31 := hide qR
              have S31 := hide qS
              have T31 := hide qT
              have B31 := hide qB
              have U31 := hide qU
              clear qR qS qT qB qU
              clear hb
              clear hown
              have C23 := hide (same_any A5 Al nw c5 _ nw cl _ xs xs w31 U31.out (by omega) T31.out (by omega))
              unfold SameEnd at C23
              rw [decide_eq_true rfl] at C23
              go_wp2_with (fail)
              refine C23.out.mono ?_
              rintro e w32 ⟨rfl, q, hq⟩
              have hb : Below w31.heap.size w31 w32 := by rw [hq]; exact below_drewN (Below.refl _ _) _
              clear hq C23
              have qR : Blk w32 (P) 24 #[.int .i64 C, .int .i64 H, .int .i64 nw, .slice A C c] := R31.out.below hb R31.out.lt
              have qS : Sl2 w32 w32.heap.size A (C) (cellsL C H xs) := Sl2.below_h hb S31.out
              have qT : Sl2 w32 w32.heap.size Al (nw) xs := Sl2.below_h hb T31.out
              have qB : Below w.heap.size w w32 := Bl.call' B31.out hb
              have qU : Sl2 w32 w32.heap.size A5 (nw) xs := Sl2.below_h hb U31.out
              clear R31 S31 T31 B31 U31
              have R32 := hide qR
              have S32 := hide qS
              have T32 := hide qT
              have B32 := hide qB
              have U32 := hide qU
              clear qR qS qT qB qU
              clear hb
              go_wp2
              go_roundw
              case rel => exact ⟨j + 1, by go_num, by omega, H, nw, xs, A, c, Al, cl, rfl, HYL.out, hlc, by first | omega | (unfold maxLen at *; omega), HRG.out, R32.out, S32.out, HFA.out, T32.out, HFL.out, B32.out⟩
              case measure => simp [intOf]; omega
      · have hd60 : decide ((j : Int) < 60) = false := by simp; omega
        go_wp2_with (fail)
        refine (C12.out _).mono ?_
        rintro e w3 ⟨rfl, hb3⟩
        have hb4 := Bl.call' HB.out hb3
        clear hb3
        go_wp2
        go_ret
        exact ⟨rfl, hb4⟩
    · skip
      go_wp2_with (fail)
      refine (C12.out _).mono ?_
      rintro e w3 ⟨rfl, hb3⟩
      have hb4 := Bl.call' HB.out hb3
      clear hb3
      go_wp2
      go_ret
      exact ⟨rfl, hb4⟩
end Go.Proofs.Ytjbfefkbpnickaa
