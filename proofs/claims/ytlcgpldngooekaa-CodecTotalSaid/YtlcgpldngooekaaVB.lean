/- One number, read from a tape or written to it: the contracts. | One number of another type, or in a range, read from a tape: the contracts. | One byte of a text, read from a tape: the contract of the closure. -/
import Derived.Test.YtlcgpldngooekaaRead
import Derived.Test.YtlcgpldngooekaaApp
import Derived.Test.YtlcgpldngooekaaLeft
import Derived.Test.YtlcgpldngooekaaVA
import Derived.Test.YtlcgpldngooekaaKeep
import Derived.Deep.Cut
import Derived.Deep.RegionHeld3
import Derived.Deep.RegionWith
namespace Go.Proofs.Ytlcgpldngooekaa
open Go.RowKit
set_option linter.unusedVariables false
def Fit (n : Int) : Prop := -9223372036854775808 ≤ n ∧ n ≤ 9223372036854775807
theorem StepI.took {l : List Int} {a a' : Nat} {b b' : Bool} {x : Int} (h : StepI l a b x a' b') : Took Any (leftV l a b) (leftV l a' b') x :=
  ⟨fun R hR => ⟨trivial, h.2.1 R hR⟩, fun y R _ hR => h.2.2 y R hR⟩
/-- the tape tb reads l, which lies at A; it stands at place a -/
def TR (l : List Int) (A : Option Addr) (n c : Nat) (w : World) (tb a : Nat) (bad : Bool) : Prop := Blk w tb 78 #[.slice A n c, .int .i64 a, .bool true, .bool bad] ∧ a ≤ l.length
/-- a number x was read into cell o of block g -/
def IntR (l : List Int) (A : Option Addr) (n c tb a : Nat) (bad : Bool) (g o : Nat) (tg : TypeId) (cs : Array Value) (w : World) (e : Ending) (w' : World) : Prop :=
  e = .returned (.tuple #[]) ∧ ∃ (x : Int) (a' : Nat) (bad' : Bool), Fit x ∧ StepI l a bad x a' bad' ∧ TR l A n c w' tb a' bad' ∧ Blk w' g tg (cs.setIfInBounds o (.int .i64 x)) ∧ Keep tb g w w'
theorem set_same {cs : Array Value} {o : Nat} {v : Value} (h : cs[o]? = some v) : cs.setIfInBounds o v = cs := by
  apply Array.ext_getElem?
  intro i
  rw [Array.getElem?_setIfInBounds]
  split
  · rename_i he; subst he
    split
    · exact h.symm
    · rename_i hh; exact absurd (Array.getElem?_eq_some_iff.1 h).1 hh
  · rfl
set_option maxHeartbeats 1000000 in
theorem int_rd {l : List Int} {A : Option Addr} {n c B tb a : Nat} {bad : Bool} {w : World} {g o : Nat} {tg : TypeId} {cs : Array Value} {x : Int} (hT : TR l A n c w tb a bad) (hS : Sl w B A n (l.map (Value.int .u8))) (hb : Bytes l) (hn : n ≤ 9223372036854775000)
    (hG : Blk w g tg cs) (hx : cs[o]? = some (.int .i64 x)) (hfx : Fit x) (hne : g ≠ tb) :
    Calls Try.prog 57 #[.pointer (some ⟨tb, 0, none⟩), .pointer (some ⟨g, o, none⟩)] w (IntR l A n c tb a bad g o tg cs w) := by
  obtain ⟨hT, ha⟩ := hT
  have t0 : w.cell? ⟨tb, 0, none⟩ = some (.slice A n c) := hT.cell 0
  have t1 : w.cell? ⟨tb, 1, none⟩ = some (.int .i64 a) := hT.cell 1
  have t2 : w.cell? ⟨tb, 2, none⟩ = some (.bool true) := hT.cell 2
  have t3 : w.cell? ⟨tb, 3, none⟩ = some (.bool bad) := hT.cell 3
  have f1 := hT.frozen 1
  have f3 := hT.frozen 3
  have g0 : w.cell? ⟨g, o, none⟩ = some (.int .i64 x) := (hG.cell o).trans hx
  have f0 := hG.frozen o
  have HT := hide hT
  have HG := hide hG
  have HX := hide hx
  have HF := hide hfx
  have HA := hide ha
  clear hT hG hx hfx ha
  cases bad with
  | true =>
    go_enter Try.func57, Try.ntmps57
    go_wp2
    go_end0
    exact ⟨rfl, x, a, true, HF.out, stepI_bad HA.out, ⟨HT.out, HA.out⟩, by rw [set_same HX.out]; exact HG.out, Keep.refl _ _ _⟩
  | false =>
    have C38 := hide (fun (w0 : World) (h0 : Sl w0 B A n (l.map (Value.int .u8))) => tread_any A n c B (a : Int) l w0 h0 hb hn)
    have HB := hide hb
    have HS := hide hS
    unfold ReadEnd at C38
    rcases readV_only (a := (a : Int)) hb with hv | ⟨k, m, y, hk, hv, hm1, hm2, _, hy1, hy2⟩
    · simp only [hv] at C38
      have HV := hide hv
      clear hb hv hS
      go_enter Try.func57, Try.ntmps57
      go_upto_region 3 with (fail)
      go_region_held3 (fun w' => w'.cell? ⟨tb, 0, none⟩ = some (.slice A n c) ∧ w'.cell? ⟨tb, 1, none⟩ = some (.int .i64 a)) (first | exact ⟨t0, t1⟩) (first | (go_at_call 38; refine (C38.out _ ?_).mono ?_; (· first | exact HS.out.drew | exact HS.out); rintro e w1 ⟨rfl, rfl⟩))
      all_goals
       go_wp2
       go_end0
       exact ⟨rfl, x, a, true, HF.out, stepI_no HA.out (by rw [HV.out]), ⟨HT.out.set_ 3 _, HA.out⟩, by rw [set_same HX.out]; exact HG.out.far hne _, ((Keep.refl _ _ _).set_tb _ _).drew⟩
    · obtain rfl : a = k := by omega
      simp only [hv] at C38
      have HV := hide hv
      have HM := hide (show 1 ≤ m ∧ a + m ≤ l.length ∧ Fit y from ⟨hm1, hm2, hy1, hy2⟩)
      clear hb hv hS hm1 hm2 hy1 hy2
      go_enter Try.func57, Try.ntmps57
      go_upto_region 3 with (fail)
      go_region_held3 (fun w' => w'.cell? ⟨tb, 0, none⟩ = some (.slice A n c) ∧ w'.cell? ⟨tb, 1, none⟩ = some (.int .i64 a)) (first | exact ⟨t0, t1⟩) (first | (go_at_call 38; refine (C38.out _ ?_).mono ?_; (· first | exact HS.out.drew | exact HS.out); rintro e w1 ⟨rfl, rfl⟩))
      all_goals
       go_upto_region 6 with (fail)
       have qT : Blk w.drew tb 78 #[.slice A n c, .int .i64 a, .bool true, .bool false] := HT.out.drew
       have qG : Blk w.drew g tg cs := HG.out.drew
       have qK : Keep tb g w w.drew := (Keep.refl _ _ _).drew
       generalize w.drew = w2 at *
       have T2 := hide qT
       have G2 := hide qG
       have K2 := hide qK
       clear qT qG qK t0 t1 t2 t3 f1 f3 g0 f0
       have t0 : w2.cell? ⟨tb, 0, none⟩ = some (.slice A n c) := T2.out.cell 0
       have t1 : w2.cell? ⟨tb, 1, none⟩ = some (.int .i64 a) := T2.out.cell 1
       have f1 := T2.out.frozen 1
       have g0 : w2.cell? ⟨g, o, none⟩ = some (.int .i64 x) := (G2.out.cell o).trans HX.out
       have f0 := G2.out.frozen o
       have k1 : (w2.setCell ⟨g, o, none⟩ (.int .i64 y)).cell? ⟨tb, 1, none⟩ = some (.int .i64 a) := (World.cell?_setCell_other _ _ _ _ (fun e => hne (by injection e))).trans t1
       go_wp2
       go_end0
       exact ⟨rfl, y, a + m, false, HM.out.2.2, stepI_yes HB.out HV.out HM.out.1 HM.out.2.1, ⟨by have := (T2.out.far (Ne.symm hne) (p := ⟨g, o, none⟩) (.int .i64 y)).set_ 1 (.int .i64 ((a + m : Nat) : Int)); simpa using this, HM.out.2.1⟩, (G2.out.set_ o _).far hne _, (K2.out.set_g _ _).set_tb _ _⟩

end Go.Proofs.Ytlcgpldngooekaa
namespace Go.Proofs.Ytlcgpldngooekaa
open Go.RowKit
set_option linter.unusedVariables false
theorem TR.alloc {l : List Int} {A : Option Addr} {n c tb a : Nat} {bad : Bool} {w : World} (h : TR l A n c w tb a bad) (o : Obj) : TR l A n c (w.alloc o) tb a bad := ⟨h.1.alloc o, h.2⟩
theorem TR.far {l : List Int} {A : Option Addr} {n c tb a : Nat} {bad : Bool} {w : World} (h : TR l A n c w tb a bad) {p : Addr} (hp : tb ≠ p.block) (u : Value) : TR l A n c (w.setCell p u) tb a bad := ⟨h.1.far hp u, h.2⟩
set_option maxHeartbeats 1000000 in
theorem small_rd {l : List Int} {A : Option Addr} {n c B tb a : Nat} {bad : Bool} {w : World} {g o : Nat} {tg : TypeId} {cs : Array Value} {x : Int} (hT : TR l A n c w tb a bad) (hS : Sl w B A n (l.map (Value.int .u8))) (hB : B ≤ w.heap.size) (hb : Bytes l) (hn : n ≤ 9223372036854775000)
    (hG : Blk w g tg cs) (hx : cs[o]? = some (.int .i64 x)) (hfx : Fit x) (hne : g ≠ tb) :
    Calls Try.prog 56 #[.pointer (some ⟨tb, 0, none⟩), .pointer (some ⟨g, o, none⟩)] w (IntR l A n c tb a bad g o tg cs w) := by
  have hlt := hG.lt
  have htl := hT.1.lt
  have C57 := hide (int_rd (x := x) (hT.alloc (.cells #[.int .i64 x] 2)) (hS.alloc hB (.cells #[.int .i64 x] 2)) hb hn (Blk.new w 2 #[.int .i64 x]) (o := 0) rfl hfx (by omega))
  have g0 : w.cell? ⟨g, o, none⟩ = some (.int .i64 x) := (hG.cell o).trans hx
  have qG : Blk (w.alloc (.cells #[.int .i64 x] 2)) g tg cs := hG.alloc _
  have qK : Keep tb g w (w.alloc (.cells #[.int .i64 x] 2)) := (Keep.refl _ _ _).alloc _
  have HG := hide qG
  have HX := hide hx
  have HK := hide qK
  clear hT hS hG hx hfx qG qK
  unfold IntR at C57
  go_enter Try.func56, Try.ntmps56
  go_wp2_with (fail)
  refine C57.out.mono ?_
  rintro e w2 ⟨rfl, y, a', bad', hfy, hst, hT2, hX2, hK2⟩
  have G2 := hide (hK2.blk HG.out (by omega) (by omega))
  have K2 := hide (HK.out.own hK2 (Nat.le_refl _))
  have x0 : w2.cell? ⟨w.heap.size, 0, none⟩ = some (.int .i64 y) := hX2.cell 0
  have g1 : w2.cell? ⟨g, o, none⟩ = some (.int .i64 x) := (G2.out.cell o).trans HX.out
  have f1 := G2.out.frozen o
  have HST := hide hst
  have HFY := hide hfy
  have HT2 := hide hT2
  clear hst hfy hT2 hX2 hK2
  go_wp2
  go_end0
  exact ⟨rfl, y, a', bad', HFY.out, HST.out, HT2.out.far (by simp; omega) _, G2.out.set_ o _, K2.out.set_g _ _⟩
/-- a number was read, and found bad where it lies outside low to high -/
def WithinR (lo hi : Int) (l : List Int) (A : Option Addr) (n c tb a : Nat) (bad : Bool) (g o : Nat) (tg : TypeId) (cs : Array Value) (w : World) (e : Ending) (w' : World) : Prop :=
  e = .returned (.tuple #[]) ∧ ∃ (x : Int) (a' : Nat) (b1 b2 : Bool), Fit x ∧ StepI l a bad x a' b1 ∧ ((lo ≤ x ∧ x ≤ hi) ∧ b2 = b1 ∨ ¬ (lo ≤ x ∧ x ≤ hi) ∧ b2 = true) ∧ TR l A n c w' tb a' b2 ∧ Blk w' g tg (cs.setIfInBounds o (.int .i64 x)) ∧ Keep tb g w w'
set_option maxHeartbeats 1000000 in
theorem within_rd {l : List Int} {A : Option Addr} {n c B tb a : Nat} {bad : Bool} {w : World} {g o : Nat} {tg : TypeId} {cs : Array Value} {x : Int} (lo hi : Int) (hT : TR l A n c w tb a bad) (hS : Sl w B A n (l.map (Value.int .u8))) (hb : Bytes l) (hn : n ≤ 9223372036854775000)
    (hG : Blk w g tg cs) (hx : cs[o]? = some (.int .i64 x)) (hfx : Fit x) (hne : g ≠ tb) :
    Calls Try.prog 67 #[.pointer (some ⟨tb, 0, none⟩), .pointer (some ⟨g, o, none⟩), .int .i64 lo, .int .i64 hi] w (WithinR lo hi l A n c tb a bad g o tg cs w) := by
  have ho : o < cs.size := (Array.getElem?_eq_some_iff.1 hx).1
  have C57 := hide (int_rd hT hS hb hn hG hx hfx hne)
  clear hT hS hG hx hfx
  unfold IntR at C57
  go_enter Try.func67, Try.ntmps67
  go_wp2_with (fail)
  refine C57.out.mono ?_
  rintro e w2 ⟨rfl, y, a', bad', hfy, hst, hT2, hG2, hK2⟩
  have t2 : w2.cell? ⟨tb, 2, none⟩ = some (.bool true) := hT2.1.cell 2
  have t3 : w2.cell? ⟨tb, 3, none⟩ = some (.bool bad') := hT2.1.cell 3
  have f3 := hT2.1.frozen 3
  have g0 : w2.cell? ⟨g, o, none⟩ = some (.int .i64 y) := (hG2.cell o).trans (by simp [ho])
  have HST := hide hst
  have HFY := hide hfy
  have HT2 := hide hT2
  have HG2 := hide hG2
  have HK2 := hide hK2
  clear hst hfy hT2 hG2 hK2
  by_cases h1 : lo ≤ y
  · have d1 : decide (y < lo) = false := by simp; omega
    by_cases h2 : y ≤ hi
    · have d2 : decide (hi < y) = false := by simp; omega
      have HH := hide (show lo ≤ y ∧ y ≤ hi from ⟨h1, h2⟩)
      clear h1 h2
      go_wp2
      go_end0
      exact ⟨rfl, y, a', bad', bad', HFY.out, HST.out, .inl ⟨HH.out, rfl⟩, HT2.out, HG2.out, HK2.out⟩
    · have d2 : decide (hi < y) = true := by simp; omega
      have HH := hide (show ¬ (lo ≤ y ∧ y ≤ hi) from fun c => h2 c.2)
      clear h1 h2
      go_wp2
      go_end0
      exact ⟨rfl, y, a', bad', true, HFY.out, HST.out, .inr ⟨HH.out, rfl⟩, ⟨HT2.out.1.set_ 3 _, HT2.out.2⟩, HG2.out.far hne _, HK2.out.set_tb _ _⟩
  · have d1 : decide (y < lo) = true := by simp; omega
    have HH := hide (show ¬ (lo ≤ y ∧ y ≤ hi) from fun c => h1 c.1)
    clear h1
    go_wp2
    go_end0
    exact ⟨rfl, y, a', bad', true, HFY.out, HST.out, .inr ⟨HH.out, rfl⟩, ⟨HT2.out.1.set_ 3 _, HT2.out.2⟩, HG2.out.far hne _, HK2.out.set_tb _ _⟩
end Go.Proofs.Ytlcgpldngooekaa
namespace Go.Proofs.Ytlcgpldngooekaa
open Go.RowKit
set_option linter.unusedVariables false
/-- a byte was read into block g -/
def ByteR (l : List Int) (A : Option Addr) (n c tb a : Nat) (bad : Bool) (g : Nat) (w : World) (e : Ending) (w' : World) : Prop :=
  e = .returned (.tuple #[]) ∧ ∃ (y : Int) (a' : Nat) (bad' : Bool), (0 ≤ y ∧ y ≤ 255) ∧ Took IsByte (leftV l a bad) (leftV l a' bad') y ∧ TR l A n c w' tb a' bad' ∧ Blk w' g 5 #[.int .u8 y] ∧ Keep tb g w w'
theorem byte_took {l : List Int} {a a1 : Nat} {bad b1 b2 : Bool} {m : Int} (hst : StepI l a bad m a1 b1) (hc : (0 ≤ m ∧ m ≤ 255) ∧ b2 = b1 ∨ ¬ (0 ≤ m ∧ m ≤ 255) ∧ b2 = true) : Took IsByte (leftV l a bad) (leftV l a1 b2) (m % 256) := by
  refine ⟨fun R hR => ?_, fun y R hy hs => ?_⟩
  · rcases hc with ⟨h1, h2⟩ | ⟨h1, h2⟩
    · rw [show m % 256 = m by omega]
      exact ⟨h1, hst.2.1 R (by rw [← h2]; exact hR)⟩
    · rw [h2] at hR; cases hR
  · have h1 := hst.2.2 y R hs
    have h2 := hst.2.1 R h1
    rw [hs] at h2
    injection h2 with h2
    injection h2 with h2 _
    rcases hc with ⟨h3, h4⟩ | ⟨h3, h4⟩
    · rw [h4]; exact h1
    · exact absurd (by rw [← h2]; exact hy) h3
theorem elem_rd {l : List Int} {A : Option Addr} {n c B tb a g tc : Nat} {bad : Bool} {w : World} {x : Int} (hT : TR l A n c w tb a bad) (hS : Sl w B A n (l.map (Value.int .u8))) (hB : B ≤ w.heap.size) (hb : Bytes l) (hn : n ≤ 9223372036854775000)
    (hG : Blk w g 5 #[.int .u8 x]) (hx : 0 ≤ x ∧ x ≤ 255) (hC : Blk w tc 76 #[.pointer (some ⟨tb, 0, none⟩)]) (hne : g ≠ tb) (h1 : tc ≠ tb) (h2 : tc ≠ g) :
    Calls Try.prog 66 #[.pointer (some ⟨g, 0, none⟩), .pointer (some ⟨tc, 0, none⟩)] w (ByteR l A n c tb a bad g w) := by
  have hlt := hG.lt
  have htl := hT.1.lt
  have hcl := hC.lt
  have C67 := hide (within_rd (x := x) 0 255 (hT.alloc (.cells #[.int .i64 x] 2)) (hS.alloc hB (.cells #[.int .i64 x] 2)) hb hn (Blk.new w 2 #[.int .i64 x]) (o := 0) rfl ⟨by omega, by omega⟩ (by omega))
  have g0 : w.cell? ⟨g, 0, none⟩ = some (.int .u8 x) := hG.cell 0
  have qG : Blk (w.alloc (.cells #[.int .i64 x] 2)) g 5 #[.int .u8 x] := hG.alloc _
  have c0 : (w.alloc (.cells #[.int .i64 x] 2)).cell? ⟨tc, 0, none⟩ = some (.pointer (some ⟨tb, 0, none⟩)) := (hC.alloc _).cell 0
  have qK : Keep tb g w (w.alloc (.cells #[.int .i64 x] 2)) := (Keep.refl _ _ _).alloc _
  have HG := hide qG
  have HK := hide qK
  have HX := hide hx
  have hw : IntKind.i64.wrap x = x := by
    rw [show IntKind.i64.wrap x = wrap64 x from IntWalk.i64_left _]
    exact IntWalk.wrap64_in _ ⟨by omega, by omega⟩
  clear hT hS hG qG qK hC hx
  unfold WithinR at C67
  go_enter Try.func66, Try.ntmps66
  go_wp2_with (fail)
  refine C67.out.mono ?_
  rintro e w2 ⟨rfl, m, a1, b1, b2, hfm, hst, hcase, hT2, hX2, hK2⟩
  have G2 := hide (hK2.blk HG.out hne (by omega))
  have K2 := hide (HK.out.own hK2 (Nat.le_refl _))
  have x0 : w2.cell? ⟨w.heap.size, 0, none⟩ = some (.int .i64 m) := hX2.cell 0
  have g1 : w2.cell? ⟨g, 0, none⟩ = some (.int .u8 x) := G2.out.cell 0
  have f1 := G2.out.frozen 0
  have HST := hide hst
  have HC := hide hcase
  have HT2 := hide hT2
  clear hst hcase hT2 hX2 hK2 hfm
  go_wp2
  go_end0
  exact ⟨rfl, m % 256, a1, b2, by omega, byte_took HST.out HC.out, HT2.out.far (by simp; omega) _, by simpa using G2.out.set_ 0 (.int .u8 (m % 256)), K2.out.set_g _ _⟩
end Go.Proofs.Ytlcgpldngooekaa
