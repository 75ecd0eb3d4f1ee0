/- One number, read from a tape or written to it: the contracts. -/
import Derived.Test.YtlcgpldngooekaaRead
import Derived.Test.YtlcgpldngooekaaApp
import Derived.Test.YtlcgpldngooekaaLeft
import Derived.Test.YtlcgpldngooekaaTook
import Derived.Test.YtlcgpldngooekaaKeep
import Derived.Deep.Cut
import Derived.Deep.RegionHeld3
import Derived.Deep.RegionWith
namespace Go.Proofs.Ytlcgpldngooekaa
open Go.RowKit
set_option linter.unusedVariables false
def Fit (n : Int) : Prop := -9223372036854775808 ≤ n ∧ n ≤ 9223372036854775807
theorem StepI.took {l : List Int} {a a' : Nat} {b b' : Bool} {x : Int} (h : StepI l a b x a' b') : Took Any (leftV l a b) (leftV l a' b') x :=
  ⟨fun R hR => ⟨trivial, h.2.1 R hR⟩, fun y R _ hR => h.2.2 y R hR⟩
/-- the tape tb reads l, which lies at A; it stands at place a -/
def TR (l : List Int) (A : Option Addr) (n c : Nat) (w : World) (tb a : Nat) (bad : Bool) : Prop := Blk w tb 78 #[.slice A n c, .int .i64 a, .bool true, .bool bad] ∧ a ≤ l.length
/-- a number x was read into cell o of block g -/
def IntR (l : List Int) (A : Option Addr) (n c tb a : Nat) (bad : Bool) (g o : Nat) (tg : TypeId) (cs : Array Value) (w : World) (e : Ending) (w' : World) : Prop :=
  e = .returned (.tuple #[]) ∧ ∃ (x : Int) (a' : Nat) (bad' : Bool), Fit x ∧ StepI l a bad x a' bad' ∧ TR l A n c w' tb a' bad' ∧ Blk w' g tg (cs.setIfInBounds o (.int .i64 x)) ∧ Keep tb g w w'
theorem set_same {cs : Array Value} {o : Nat} {v : Value} (h : cs[o]? = some v) : cs.setIfInBounds o v = cs := by
  apply Array.ext_getElem?
  intro i
  rw [Array.getElem?_setIfInBounds]
  split
  · rename_i he; subst he
    split
    · exact h.symm
    · rename_i hh; exact absurd (Array.getElem?_eq_some_iff.1 h).1 hh
  · rfl
set_option maxHeartbeats 1000000 in
theorem int_rd {l : List Int} {A : Option Addr} {n c B tb a : Nat} {bad : Bool} {w : World} {g o : Nat} {tg : TypeId} {cs : Array Value} {x : Int} (hT : TR l A n c w tb a bad) (hS : Sl w B A n (l.map (Value.int .u8))) (hb : Bytes l) (hn : n ≤ 9223372036854775000)
    (hG : Blk w g tg cs) (hx : cs[o]? = some (.int .i64 x)) (hfx : Fit x) (hne : g ≠ tb) :
    Calls Try.prog 57 #[.pointer (some ⟨tb, 0, none⟩), .pointer (some ⟨g, o, none⟩)] w (IntR l A n c tb a bad g o tg cs w) := by
  obtain ⟨hT, ha⟩ := hT
  have t0 : w.cell? ⟨tb, 0, none⟩ = some (.slice A n c) := hT.cell 0
  have t1 : w.cell? ⟨tb, 1, none⟩ = some (.int .i64 a) := hT.cell 1
  have t2 : w.cell? ⟨tb, 2, none⟩ = some (.bool true) := hT.cell 2
  have t3 : w.cell? ⟨tb, 3, none⟩ = some (.bool bad) := hT.cell 3
  have f1 := hT.frozen 1
  have f3 := hT.frozen 3
  have g0 : w.cell? ⟨g, o, none⟩ = some (.int .i64 x) := (hG.cell o).trans hx
  have f0 := hG.frozen o
  have HT := hide hT
  have HG := hide hG
  have HX := hide hx
  have HF := hide hfx
  have HA := hide ha
  clear hT hG hx hfx ha
  cases bad with
  | true =>
    go_enter Try.func57, Try.ntmps57
    go_wp2
    go_end0
    exact ⟨rfl, x, a, true, HF.out, stepI_bad HA.out, ⟨HT.out, HA.out⟩, by rw [set_same HX.out]; exact HG.out, Keep.refl _ _ _⟩
  | false =>
    have C38 := hide (fun (w0 : World) (h0 : Sl w0 B A n (l.map (Value.int .u8))) => tread_any A n c B (a : Int) l w0 h0 hb hn)
    have HB := hide hb
    have HS := hide hS
    unfold ReadEnd at C38
    rcases readV_only (a := (a : Int)) hb with hv | ⟨k, m, y, hk, hv, hm1, hm2, _, hy1, hy2⟩
    · simp only [hv] at C38
      have HV := hide hv
      clear hb hv hS
      go_enter Try.func57, Try.ntmps57
      go_upto_region 3 with (fail)
      go_region_held3 (fun w' => w'.cell? ⟨tb, 0, none⟩ = some (.slice A n c) ∧ w'.cell? ⟨tb, 1, none⟩ = some (.int .i64 a)) (first | exact ⟨t0, t1⟩) (first | (go_at_call 38; refine (C38.out _ ?_).mono ?_; (· first | exact HS.out.drew | exact HS.out); rintro e w1 ⟨rfl, rfl⟩))
      all_goals
       go_wp2
       go_end0
       exact ⟨rfl, x, a, true, HF.out, stepI_no HA.out (by rw [HV.out]), ⟨HT.out.set_ 3 _, HA.out⟩, by rw [set_same HX.out]; exact HG.out.far hne _, ((Keep.refl _ _ _).set_tb _ _).drew⟩
    · obtain rfl : a = k := by omega
      simp only [hv] at C38
      have HV := hide hv
      have HM := hide (show 1 ≤ m ∧ a + m ≤ l.length ∧ Fit y from ⟨hm1, hm2, hy1, hy2⟩)
      clear hb hv hS hm1 hm2 hy1 hy2
      go_enter Try.func57, Try.ntmps57
      go_upto_region 3 with (fail)
      go_region_held3 (fun w' => w'.cell? ⟨tb, 0, none⟩ = some (.slice A n c) ∧ w'.cell? ⟨tb, 1, none⟩ = some (.int .i64 a)) (first | exact ⟨t0, t1⟩) (first | (go_at_call 38; refine (C38.out _ ?_).mono ?_; (· first | exact HS.out.drew | exact HS.out); rintro e w1 ⟨rfl, rfl⟩))
      all_goals
       go_upto_region 6 with (fail)
       have qT : Blk w.drew tb 78 #[.slice A n c, .int .i64 a, .bool true, .bool false] := HT.out.drew
       have qG : Blk w.drew g tg cs := HG.out.drew
       have qK : Keep tb g w w.drew := (Keep.refl _ _ _).drew
       generalize w.drew = w2 at *
       have T2 := hide qT
       have G2 := hide qG
       have K2 := hide qK
       clear qT qG qK t0 t1 t2 t3 f1 f3 g0 f0
       have t0 : w2.cell? ⟨tb, 0, none⟩ = some (.slice A n c) := T2.out.cell 0
       have t1 : w2.cell? ⟨tb, 1, none⟩ = some (.int .i64 a) := T2.out.cell 1
       have f1 := T2.out.frozen 1
       have g0 : w2.cell? ⟨g, o, none⟩ = some (.int .i64 x) := (G2.out.cell o).trans HX.out
       have f0 := G2.out.frozen o
       have k1 : (w2.setCell ⟨g, o, none⟩ (.int .i64 y)).cell? ⟨tb, 1, none⟩ = some (.int .i64 a) := (World.cell?_setCell_other _ _ _ _ (fun e => hne (by injection e))).trans t1
       go_wp2
       go_end0
       exact ⟨rfl, y, a + m, false, HM.out.2.2, stepI_yes HB.out HV.out HM.out.1 HM.out.2.1, ⟨by have := (T2.out.far (Ne.symm hne) (p := ⟨g, o, none⟩) (.int .i64 y)).set_ 1 (.int .i64 ((a + m : Nat) : Int)); simpa using this, HM.out.2.1⟩, (G2.out.set_ o _).far hne _, (K2.out.set_g _ _).set_tb _ _⟩

end Go.Proofs.Ytlcgpldngooekaa
