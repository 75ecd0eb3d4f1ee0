/- The walk of the law that bytes that are read are those that are written: it returns true. -/
import Derived.Test.YtlcgpldngooekaaVJ
import Derived.Deep.RegionHeld3
import Derived.WalkSpells
import Derived.BigRegion
import Derived.Lib.SlBytesRow
namespace Go.Proofs.Ytlcgpldngooekaa
open Go.RowKit Go.ChangeShapes Go.WideShapes
set_option linter.unusedVariables false
theorem Sl.cut {w : World} {B n : Nat} {b o : Nat} {xs : List Value} (h : Sl w B (some ⟨b, o, none⟩) n xs) {k m : Nat} (hk : k + m ≤ n) (hm : 0 < m) : Sl w B (some ⟨b, o + k, none⟩) m ((xs.drop k).take m) := by
  have hl := h.1
  refine ⟨by rw [List.length_take, List.length_drop]; omega, fun _ => ?_⟩
  obtain ⟨b', o', e, hb, hc⟩ := h.2 (by omega)
  injection e with e
  injection e with e1 e2
  subst e1 e2
  refine ⟨b, o + k, rfl, hb, fun i u hu => ?_⟩
  rw [List.getElem?_take] at hu
  split at hu
  · rw [List.getElem?_drop] at hu
    rw [Nat.add_assoc]
    exact hc _ u hu
  · cases hu
theorem below_undrew {B : Nat} {w w' : World} (h : Below B w.drew w') : Below B w w' := ⟨h.os, h.tape, h.output, h.size, h.block⟩
set_option maxRecDepth 100000 in
set_option maxHeartbeats 400000 in
theorem codecUnique_walk (A : Option Addr) (len0 cap0 : Nat) (z : List Int) (at_ : Int) (w : World) (w0 : IsRow .u8 w A len0 cap0 z) (hcap0 : cap0 * Try.prog.bytesOf 5 ≤ 140737488351232) (w1 : (Lit.int .i64 at_).wf = true) :
    Calls Try.prog 6 #[.slice A len0 cap0, .int .i64 at_] w fun e w' => e = .returned (.bool true) ∧ Below w.heap.size w w' := by
  obtain ⟨hsl, hby, hlc, hzl, hcm⟩ := row_bytes w0
  have hcap : cap0 ≤ 140737488351232 := by rw [bytes5] at hcap0; omega
  have C4 := hide awake_any
  have c1 := cread_any A len0 cap0 w.heap.size at_ (z.take len0) w hsl hby (by omega)
  unfold ReadEnd at c1
  clear w0 w1 hcap0 hcm
  generalize z.take len0 = l at *
  rcases readV_only (l := l) (a := at_) hby with hr | ⟨k, m, n, rfl, hr, hm1, hkm, hcode, hn⟩
  · rw [hr] at c1
    have C1 := hide c1
    clear c1 hr hsl hby hlc hzl hcap
    go_enter Try.func6, Try.ntmps6
    go_wp2_with (first | (go_at_call 16; refine C1.out.mono ?_; rintro e w' ⟨rfl, rfl⟩) | (go_at_call 12; refine (C4.out _).mono ?_; rintro e w' ⟨rfl, hb3⟩))
    go_ret
    exact ⟨rfl, hb3⟩
  · rw [hr] at c1
    have C1 := hide c1
    obtain ⟨b, o, e, hb, hc⟩ := hsl.2 (by omega)
    subst e
    have hcut : Sl w w.heap.size (some ⟨b, o + k, none⟩) m ((codeN n).map (Value.int .u8)) := by
      rw [hcode, List.map_take, List.map_drop]
      exact hsl.cut (by omega) (by omega)
    have C2 := hide (fun w1 => capp_any none 0 0 [] n w1 Sl.none_ hn (by omega))
    have hcn : Bytes (codeN n) := codeN_bytes hn
    have hwin : ∀ W, (Instr.slice 22 (.slice (some ⟨b, o, none⟩) len0 cap0) (some (.int .i64 (k : Int))) (some (.int .i64 ((k : Int) + (m : Int)))) none).run Try.prog W = .ok (.slice (some ⟨b, o + k, none⟩) m (cap0 - k)) W := fun W => by
      have := Lib.run_slice_window (P := Try.prog) W 22 5 Try.underlying22 (fun w => by kernel_rfl) b o len0 cap0 k (k + m) (by omega) (by omega)
      rw [show k + m - k = m by omega, show ((k + m : Nat) : Int) = (k : Int) + m by omega] at this
      exact this
    have C3 := hide (fun A1 c1 w1 (hb1 : Below w.heap.size w w1) (hs : Sl w1 w1.heap.size A1 (codeN n).length ((codeN n).map (Value.int .u8))) => same_bytes A1 (some ⟨b, o + k, none⟩) (codeN n).length c1 _ m (cap0 - k) _ (codeN n) (codeN n) w1 hs hcn (hcut.below hb1) hcn)
    have g0 : (0 : Int) ≤ (k : Int) := by omega
    have g1 : (0 : Int) < (m : Int) := by omega
    have g1n : 0 < m := by omega
    have g2 : (k : Int) < (k : Int) + (m : Int) := by omega
    have g3 : (k : Int) + (m : Int) ≤ (len0 : Int) := by omega
    have g3n : k + m ≤ len0 := by omega
    unfold NewEnd at C2
    unfold EqEnd at C3
    rw [List.nil_append] at C2
    have HCN := hide hcn
    clear c1 hr hcode hby hzl hcut hcn hsl hc hn
    generalize codeN n = y at *
    go_enter Try.func6, Try.ntmps6
    go_wp2_with (go_at_call 16; refine C1.out.mono ?_; rintro e w' ⟨rfl, rfl⟩)
    go_region_held3 (fun _ => True) (trivial) (first | (go_at_call 18; refine (C2.out _).mono ?_; rintro e w1 ⟨A1, c1, rfl, hown1, hbl1⟩; have HO1 := hide hown1; have HB1 := hide (below_undrew hbl1); clear hown1 hbl1) | (go_at_call 19; refine (C3.out _ _ _ HB1.out (Sl.of_own HO1.out)).mono ?_; rintro e w2 ⟨rfl, rfl⟩) | (go_at_call 12; refine (C4.out _).mono ?_; rintro e w' ⟨rfl, hb3⟩))
    go_wp2
    go_ret
    exact ⟨rfl, HB1.out.trans (hb3.mono HB1.out.size)⟩
end Go.Proofs.Ytlcgpldngooekaa
