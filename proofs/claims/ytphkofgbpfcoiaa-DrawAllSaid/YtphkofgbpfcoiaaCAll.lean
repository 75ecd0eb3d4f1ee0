/- The contract of the list of all sequences. -/
import Derived.Test.YtphkofgbpfcoiaaCSeq
namespace Go.Proofs.Ytphkofgbpfcoiaa
open Go.RowKit
set_option linter.unusedVariables false
/-- a slice that reads as xs, in a block from lo on and below B -/
def SlI (w : World) (lo B : Nat) (A : Option Addr) (n : Nat) (xs : List Value) : Prop :=
  xs.length = n ∧ (0 < n → ∃ b o, A = some ⟨b, o, none⟩ ∧ lo ≤ b ∧ b < B ∧ ∀ i u, xs[i]? = some u → w.cell? ⟨b, o + i, none⟩ = some u)
theorem SlI.sl {w : World} {lo B : Nat} {A : Option Addr} {n : Nat} {xs : List Value} (h : SlI w lo B A n xs) : Sl w B A n xs :=
  ⟨h.1, fun hn => by obtain ⟨b, o, e, _, hb, hc⟩ := h.2 hn; exact ⟨b, o, e, hb, hc⟩⟩
theorem SlI.grown {w w' : World} {lo B g : Nat} {A : Option Addr} {n : Nat} {xs : List Value} (h : SlI w lo B A n xs) (hg : w.grownBy w' (some g)) (hl : g < lo) (hB : B ≤ w.heap.size) : SlI w' lo B A n xs :=
  ⟨h.1, fun hn => by
    obtain ⟨b, o, e, hlo, hb, hc⟩ := h.2 hn
    exact ⟨b, o, e, hlo, hb, fun i u hu => (World.cell?_of_block (hg.block b (by omega) (by intro c; injection c with c; omega))).trans (hc i u hu)⟩⟩
theorem SlI.below {w w' : World} {lo B : Nat} {A : Option Addr} {n : Nat} {xs : List Value} (h : SlI w lo B A n xs) (hb : Below B w w') : SlI w' lo B A n xs :=
  ⟨h.1, fun hn => by
    obtain ⟨b, o, e, hlo, hB, hc⟩ := h.2 hn
    exact ⟨b, o, e, hlo, hB, fun i u hu => (below_cell hb hB).trans (hc i u hu)⟩⟩
theorem SlI.more {w : World} {lo lo' B B' : Nat} {A : Option Addr} {n : Nat} {xs : List Value} (h : SlI w lo B A n xs) (hl : lo' ≤ lo) (hB : B ≤ B') : SlI w lo' B' A n xs :=
  ⟨h.1, fun hn => by
    obtain ⟨b, o, e, hlo, hb, hc⟩ := h.2 hn
    exact ⟨b, o, e, by omega, by omega, hc⟩⟩
theorem SlI.of_own {w : World} {base : Nat} {e : TypeId} {A : Option Addr} {n c : Nat} {xs : List Value} (h : w.ownsRow base e 1 (.slice A n c) n xs) : SlI w base w.heap.size A n xs := by
  refine ⟨(Sl.of_own h).1, fun hn => ?_⟩
  obtain ⟨b, o, e1, hb, hc⟩ := (Sl.of_own h).2 hn
  obtain ⟨g, cap, hv, hg, _⟩ := own_form h hn
  injection hv with hA
  rw [hA] at e1
  injection e1 with e1
  injection e1 with e2 e3
  subst e2
  exact ⟨_, o, by rw [hA, ← e3], hg, hb, hc⟩
theorem grown_of_below {a w : World} (h : Below a.heap.size a w) (row : Option Nat) : a.grownBy w row := ⟨h.os, h.tape, h.output, h.size, fun i hi _ => h.block i hi⟩
/-- the rows listed so far -/
def RowsOf (w : World) (g : Nat) (rs : List Int) (cells : List Value) : Prop :=
  ∀ (i : Nat) (s : Value), cells[i]? = some s → ∃ (A : Option Addr) (c : Nat), s = Value.slice A rs.length c ∧ SlI w (g + 1) w.heap.size A rs.length ((seqL rs i).map (Value.int .i64))
theorem RowsOf.step {w w1 w2 : World} {g : Nat} {rs : List Int} {cells : List Value} {A : Option Addr} {c k : Nat} (h : RowsOf w g rs cells) (hk : cells.length = k) (hg : g < w.heap.size) (hb : Below w.heap.size w w1)
    (hown : w1.ownsRow w.heap.size 2 1 (.slice A rs.length c) rs.length ((seqL rs k).map (Value.int .i64))) (hgr : (w1.alloc (.cells #[.slice A rs.length c] 22)).grownBy w2 (some g)) :
    RowsOf w2 g rs (cells ++ [.slice A rs.length c]) := by
  have hs1 := hb.size
  have hs2 : w1.heap.size + 1 ≤ w2.heap.size := by have := hgr.size; simpa using this
  intro i s hs
  rcases Nat.lt_or_ge i k with hi | hi
  · rw [List.getElem?_append_left (by omega)] at hs
    obtain ⟨A', c', e, hsl⟩ := h i s hs
    exact ⟨A', c', e, (((hsl.below hb).below ((Below.refl _ _).alloc hs1 _)).grown hgr (by omega) (by simp; omega)).more (Nat.le_refl _) (by omega)⟩
  · have hik : i = k := by
      have := (List.getElem?_eq_some_iff.1 hs).1
      simp at this; omega
    subst hik
    rw [List.getElem?_append_right (by omega)] at hs
    simp [hk] at hs
    subst hs
    exact ⟨A, c, rfl, (((SlI.of_own hown).below ((Below.refl _ _).alloc (Nat.le_refl _) _)).grown hgr (by omega) (by simp)).more (by omega) (by omega)⟩
theorem info22 : (Try.prog.info? 22).map (fun i => (i.zero, i.size, i.bytes)) = some (some (.slice none 0 0), 1, 24) := by kernel_rfl
def AllOk (rs : List Int) : Prop := WOk rs ∧ prodL rs ≤ 100000
def AllEnd (rs : List Int) (w : World) (e : Ending) (w' : World) : Prop :=
  (AllOk rs ∧ (∃ cells, e = .returned (.slice (some ⟨w.heap.size, 0, none⟩) (prodL rs).toNat (prodL rs).toNat) ∧ w'.ownsRow w.heap.size 22 1 (.slice (some ⟨w.heap.size, 0, none⟩) (prodL rs).toNat (prodL rs).toNat) (prodL rs).toNat cells ∧ RowsOf w' w.heap.size rs cells) ∧ Below w.heap.size w w') ∨
  (¬ AllOk rs ∧ e = .returned (.slice none 0 0) ∧ w = w')
theorem all_no {rs : List Int} {w : World} (h : ¬ AllOk rs) : AllEnd rs w (.returned (.slice none 0 0)) w := .inr ⟨h, rfl, rfl⟩
set_option maxRecDepth 100000 in
set_option maxHeartbeats 400000 in
theorem all_any (A : Option Addr) (n c : Nat) (rs : List Int) (w : World) (h : Sl w w.heap.size A n (rs.map (Value.int .i64))) (hf : Fits rs) (hn : n ≤ 35184372088832) :
    Calls Try.prog 20 #[.slice A n c] w (AllEnd rs w) := by
  have hl := h.len
  have C1 := hide (weight_any A n c w.heap.size rs w h hf (by omega))
  unfold WeightEnd at C1
  by_cases hw : WOk rs
  · rw [(wV_yes hw).1, (wV_yes hw).2] at C1
    by_cases hbig : 100000 < prodL rs
    · have HN := hide (show ¬ AllOk rs from fun c => by have := c.2; omega)
      clear h hw hf hl
      generalize prodL rs = P at *
      go_enter Try.func20, Try.ntmps20
      go_wp2_with (go_at_call 9; refine C1.out.mono ?_; rintro e w' ⟨rfl, rfl⟩)
      go_ret
      exact all_no HN.out
    · have C2 := hide (fun N w1 (hb : Below w.heap.size w w1) => seq_any A n c w.heap.size rs N w1 (h.below hb) hb.size hf hn)
      have HOK := hide (show AllOk rs from ⟨hw, by omega⟩)
      obtain ⟨m, hm⟩ := Int.eq_ofNat_of_zero_le (show 0 ≤ prodL rs by have := prodL_pos hw.1; omega)
      have hm1 : m ≤ 100000 := by omega
      have HL := hide hl
      have HM := hide hm
      rw [hm] at C1
      obtain ⟨i0, hi, hz0, hz1, hz2⟩ := info_parts info22
      clear h hw hf hl hm hbig
      go_enter Try.func20, Try.ntmps20
      go_wp2_with (first | (go_at_call 9; refine C1.out.mono ?_; rintro e w' ⟨rfl, rfl⟩) | (at_make; refine wpList_make_own _ rfl (.const (.int .i64 0)) (.tmp 20) 37 rfl w.heap.size 22 i0 (.slice none 0 0) 1 Try.underlying37 hi hz0 hz1 .i64 .i64 m m rfl rfl rfl (by rw [hz2]; omega) (by simp only [maxLen]; omega) (Nat.le_refl _) ?_; intro w1 hown1 hg1))
      have hb1 : Below w.heap.size w w1 := (Below.refl _ _).grown hg1 (Nat.le_refl _) (by intro q hq; cases hq)
      have hlt1 : w.heap.size < w1.heap.size := (hown1.lt w.heap.size rfl).2
      have HO := hide hown1
      have HB1 := hide hb1
      clear hown1 hg1 hb1
      go_loopw [5, 23] (fun v i wr => ∃ (k : Nat) (cells : List Value), k ≤ m ∧ i = .int .i64 k ∧ v = .slice (some ⟨w.heap.size, 0, none⟩) k m ∧ wr.ownsRow w.heap.size 22 1 (.slice (some ⟨w.heap.size, 0, none⟩) k m) k cells ∧ RowsOf wr w.heap.size rs cells ∧ Below w.heap.size w wr) (fun _ i _ => m - (intOf i).toNat)
      case atStart => exact ⟨0, [], Nat.zero_le _, rfl, rfl, HO.out, by intro i s hs; simp at hs, HB1.out⟩
      case round =>
        obtain ⟨k, cells, hk, rfl, rfl, hown, hrows, hbl⟩ := hrel
        have HOW := hide hown
        have HR := hide hrows
        have HB := hide hbl
        clear hown hrows hbl
        by_cases hlt : k < m
        · go_wp2_with fail
          refine (C2.out k wr HB.out).mono ?_
          rintro e w2 (⟨_, ⟨A2, c2, rfl, hown2⟩, hb2⟩ | ⟨hno, _⟩)
          · have hlg : w.heap.size < wr.heap.size := (HOW.out.lt w.heap.size rfl).2
            have hk2 := HOW.out.kept (grown_of_below hb2 none) (.inr (by simp [Value.ownBlock]))
            have HK2 := hide hk2
            have HO2 := hide hown2
            have HB2 := hide hb2
            clear hk2 hown2 hb2
            go_wp2_with (at_builtin; refine wpList_append_fits _ rfl (.tmp 32) (.tmp 34) 37 rfl w.heap.size 22 i0 1 Try.underlying37 hi hz1 w.heap.size k m cells rfl (HK2.out.alloc _) ⟨w2.heap.size, 0, none⟩ 1 1 [.slice A2 rs.length c2] rfl rfl (cell_one_new _ _ _) (by intro u hu; simp at hu; subst hu; rfl) (by omega) ?_; intro w3 hown3 hg3)
            have hcl : cells.length = k := by have := HOW.out.1; omega
            have hr3 := HR.out.step hcl hlg HB2.out (by rw [hcl] at *; exact HO2.out) hg3
            have hb3 : Below w.heap.size w w3 := ((HB.out.trans (HB2.out.mono HB.out.size)).alloc (by have := HB.out.size; have := HB2.out.size; omega) _).grown hg3 (by have := HB.out.size; have := HB2.out.size; simp; omega) (by intro q hq; injection hq with hq; omega)
            go_roundw
            case rel => exact ⟨k + 1, cells ++ [.slice A2 rs.length c2], by omega, by go_num, rfl, hown3, hr3, hb3⟩
            case measure => simp [intOf]; omega
          · exact absurd ⟨HOK.out.1, by omega, by have := HM.out; omega⟩ hno
        · obtain rfl : k = m := by omega
          go_wp2
          go_ret
          have e : (prodL rs).toNat = k := by have := HM.out; omega
          exact .inl ⟨HOK.out, ⟨cells, by rw [e]; rfl, by rw [e]; exact HOW.out, HR.out⟩, HB.out⟩
  · rw [(wV_no hw).1, (wV_no hw).2] at C1
    have HN := hide (show ¬ AllOk rs from fun c => hw c.1)
    clear h hw hf hl
    go_enter Try.func20, Try.ntmps20
    go_wp2_with (go_at_call 9; refine C1.out.mono ?_; rintro e w' ⟨rfl, rfl⟩)
    go_ret
    exact all_no HN.out
end Go.Proofs.Ytphkofgbpfcoiaa
