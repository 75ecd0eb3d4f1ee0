/- The walk of the law CodecDamaged. -/
import Derived.Test.YtlcgpldngooekaaLD1
import Derived.Test.YtlcgpldngooekaaLD2
import Derived.Test.YtlcgpldngooekaaLD3
import Derived.OpenShut
namespace Go.Proofs.Ytlcgpldngooekaa
open Go.RowKit Go.ChangeShapes Go.WideShapes
set_option linter.unusedVariables false
set_option maxRecDepth 100000
set_option maxHeartbeats 2000000 in
theorem dam_big (x : CmdD) (A1 : Option Addr) (c1 : Nat) (A2 : Option Addr) (c2 : Nat) (at_ xx how : Int) (w : World) (h : ¬ (x.ds.length ≤ 200 ∧ x.bs.length ≤ 500)) :
    Calls Try.prog 8 #[.agg (x.cells A1 c1 A2 c2), .int .i64 at_, .int .u8 xx, .int .i64 how] w (FewR true w) := by
  have C26 := hide (fun (w1 : World) => few_any x A1 c1 A2 c2 w1)
  have hdec : decide (x.ds.length ≤ 200 ∧ x.bs.length ≤ 500) = false := by simpa using h
  rw [hdec] at C26
  have C12 := hide (fun (w1 : World) => awake_any w1)
  unfold FewR at C26
  unfold AwakeEnd at C12
  have qP : Blk (w.alloc (.cells (x.cells A1 c1 A2 c2) 45)) w.heap.size 45 (x.cells A1 c1 A2 c2) := Blk.new w 45 _
  have qB : Below w.heap.size w (w.alloc (.cells (x.cells A1 c1 A2 c2) 45)) := (Below.refl _ w).alloc (Nat.le_refl _) _
  unfold CmdD.cells at *
  clear h hdec
  go_enter Try.func8, Try.ntmps8
  go_upto_region 1 with (fail)
  generalize (w.alloc (.cells #[.int .i64 x.n0, .int .i64 x.n1, .int .i64 x.n2, .int .i64 x.n3, .int .i64 x.n4, .int .i64 x.n5, .int .i64 x.n6, .int .i64 x.n7, .int .i64 x.n8, .int .i64 x.n9, .int .i64 x.n10, .int .i64 x.n11, .slice A1 x.ds.length c1, .int .i64 x.n13, .int .i64 x.n14, .int .i64 x.n15, .slice A2 x.bs.length c2] 45)) = w0 at *
  have P0 := hide qP
  have B0 := hide qB
  clear qP qB
  go_wp2_with (refine wpList_load45 rfl (.tmp 4) rfl w.heap.size 45 rfl P0.out ?_)
  refine (C26.out _).mono ?_
  rintro e w1 ⟨rfl, hb1⟩
  have B1 := hide (B0.out.trans (hb1.mono B0.out.size))
  clear hb1
  go_wp2_with (go_at_call 12; refine (C12.out _).mono ?_; rintro e w2 ⟨rfl, hb2⟩)
  go_ret
  exact ⟨rfl, B1.out.trans (hb2.mono B1.out.size)⟩
theorem codecDamaged_walk (v : Value) (x : CmdD) (at_ xx how : Int) (w : World) (hH : HoldsC w w.heap.size v x) (hok : x.Ok) (_ : (Lit.int .i64 at_).wf = true) (hw2 : (Lit.int .u8 xx).wf = true) (_ : (Lit.int .i64 how).wf = true) :
    Calls Try.prog 8 #[v, .int .i64 at_, .int .u8 xx, .int .i64 how] w (FewR true w) := by
  have hxx : 0 ≤ xx ∧ xx ≤ 255 := by have := bounds_u8 hw2; omega
  obtain ⟨A1, c1, A2, c2, rfl, hD, hE⟩ := hH
  by_cases h : x.ds.length ≤ 200 ∧ x.bs.length ≤ 500
  · by_cases hv : dmg (writeL x.flat) at_ xx how = writeL x.flat
    · exact dam_v1 x A1 c1 A2 c2 at_ xx how w hD hE hok hxx h.1 h.2 hv
    · by_cases hv2 : ∃ y : CmdD, (∀ d ∈ y.bs, IsByte d) ∧ numsF (dmg (writeL x.flat) at_ xx how).length (dmg (writeL x.flat) at_ xx how) 0 = some y.flat
      · exact dam_v3 x A1 c1 A2 c2 at_ xx how w hD hE hok hxx h.1 h.2 hv hv2
      · exact dam_v2 x A1 c1 A2 c2 at_ xx how w hD hE hok hxx h.1 h.2 hv (fun y hy hc => hv2 ⟨y, hy, hc⟩)
  · exact dam_big x A1 c1 A2 c2 at_ xx how w h
end Go.Proofs.Ytlcgpldngooekaa
