/- The walk of the law CodecCommands. -/
import Derived.Test.YtlcgpldngooekaaLD0
import Derived.Test.YtlcgpldngooekaaWE
import Derived.OpenShut
namespace Go.Proofs.Ytlcgpldngooekaa
open Go.RowKit Go.ChangeShapes Go.WideShapes
set_option linter.unusedVariables false
set_option maxRecDepth 100000
theorem Says.of_code {x y : CmdD} {f : Int} (h : Says (writeL x.flat) y f) (hi : Ints x.flat) (hb : ∀ d ∈ x.bs, IsByte d) : f = 0 ∧ y.flat = x.flat := by
  have hn : numsF (writeL x.flat).length (writeL x.flat) 0 = some x.flat := by
    have := numsF_writeL x.flat [] (writeL x.flat).length hi (writeL_len x.flat).2
    simpa using this
  rcases h with ⟨h1, h2⟩ | ⟨h1, h2, h3⟩
  · rw [hn] at h2; injection h2 with h2; exact ⟨h1, h2.symm⟩
  · exact absurd hn (h3 x hb)
set_option maxHeartbeats 2000000 in
theorem cmds_small (x : CmdD) (A1 : Option Addr) (c1 : Nat) (A2 : Option Addr) (c2 : Nat) (w : World) (hD : Sl w w.heap.size A1 x.ds.length (x.ds.map (Value.int .i64))) (hE : Sl w w.heap.size A2 x.bs.length (x.bs.map (Value.int .u8))) (hok : x.Ok) (h1 : x.ds.length ≤ 200) (h2 : x.bs.length ≤ 500) :
    Calls Try.prog 9 #[.agg #[.int .i64 x.n0, .int .i64 x.n1, .int .i64 x.n2, .int .i64 x.n3, .int .i64 x.n4, .int .i64 x.n5, .int .i64 x.n6, .int .i64 x.n7, .int .i64 x.n8, .int .i64 x.n9, .int .i64 x.n10, .int .i64 x.n11, .slice A1 x.ds.length c1, .int .i64 x.n13, .int .i64 x.n14, .int .i64 x.n15, .slice A2 x.bs.length c2]] w (FewR true w) := by
  have qP : Blk (w.alloc (.cells #[.int .i64 x.n0, .int .i64 x.n1, .int .i64 x.n2, .int .i64 x.n3, .int .i64 x.n4, .int .i64 x.n5, .int .i64 x.n6, .int .i64 x.n7, .int .i64 x.n8, .int .i64 x.n9, .int .i64 x.n10, .int .i64 x.n11, .slice A1 x.ds.length c1, .int .i64 x.n13, .int .i64 x.n14, .int .i64 x.n15, .slice A2 x.bs.length c2] 45)) w.heap.size 45 #[.int .i64 x.n0, .int .i64 x.n1, .int .i64 x.n2, .int .i64 x.n3, .int .i64 x.n4, .int .i64 x.n5, .int .i64 x.n6, .int .i64 x.n7, .int .i64 x.n8, .int .i64 x.n9, .int .i64 x.n10, .int .i64 x.n11, .slice A1 x.ds.length c1, .int .i64 x.n13, .int .i64 x.n14, .int .i64 x.n15, .slice A2 x.bs.length c2] := Blk.new w 45 _
  have qB : Below w.heap.size w (w.alloc (.cells #[.int .i64 x.n0, .int .i64 x.n1, .int .i64 x.n2, .int .i64 x.n3, .int .i64 x.n4, .int .i64 x.n5, .int .i64 x.n6, .int .i64 x.n7, .int .i64 x.n8, .int .i64 x.n9, .int .i64 x.n10, .int .i64 x.n11, .slice A1 x.ds.length c1, .int .i64 x.n13, .int .i64 x.n14, .int .i64 x.n15, .slice A2 x.bs.length c2] 45)) := (Below.refl _ w).alloc (Nat.le_refl _) _
  have C26 := hide (fun (w1 : World) => few_any x A1 c1 A2 c2 w1)
  have hdec : decide (x.ds.length ≤ 200 ∧ x.bs.length ≤ 500) = true := by simp [h1, h2]
  rw [hdec] at C26
  have C31 := hide (fun (w1 : World) (hb : Below w.heap.size w w1) => enc_any (.agg (x.cells A1 c1 A2 c2)) x w.heap.size w1 ⟨A1, c1, A2, c2, rfl, hD.below hb, hE.below hb⟩ hok hb.size h1 h2)
  have C27 := hide (fun (w1 : World) (hb : Below w.heap.size w w1) => renc_any (.agg (x.cells A1 c1 A2 c2)) x w.heap.size w1 ⟨A1, c1, A2, c2, rfl, hD.below hb, hE.below hb⟩ hok hb.size h1 h2)
  have hl0 : Bytes (writeL x.flat) := writeL_bytes (hok.ints (by omega) (by omega))
  have hlen0 := writeL_len x.flat
  have hfl := x.flat_len
  have hsay : ∀ (y : CmdD) (f : Int), Says (writeL x.flat) y f → f = 0 ∧ y.flat = x.flat := fun y f h => h.of_code (hok.ints (by omega) (by omega)) hok.2.2
  have HSAY := hide hsay
  have hd1 : x.ds.length ≤ 1000000 := by omega
  have hd2 : x.bs.length ≤ 1000000 := by omega
  have HOK := hide hok
  have HD := hide hD
  have HE := hide hE
  generalize hl : writeL x.flat = l0 at *
  generalize hM : l0.length = M at *
  have HM := hide hM
  have hM2 : M ≤ 8000 := by omega
  have HB0 := hide hl0
  clear hD hE hok hl hM hlen0 hfl hl0 hdec h1 h2 hsay
  unfold FewR at C26
  unfold CodeR at C27 C31
  unfold CmdD.cells at C26 C27 C31
  simp only [HM.out] at C27 C31
  go_enter Try.func9, Try.ntmps9
  go_upto_region 1 with (fail)
  generalize (w.alloc (.cells #[.int .i64 x.n0, .int .i64 x.n1, .int .i64 x.n2, .int .i64 x.n3, .int .i64 x.n4, .int .i64 x.n5, .int .i64 x.n6, .int .i64 x.n7, .int .i64 x.n8, .int .i64 x.n9, .int .i64 x.n10, .int .i64 x.n11, .slice A1 x.ds.length c1, .int .i64 x.n13, .int .i64 x.n14, .int .i64 x.n15, .slice A2 x.bs.length c2] 45)) = w0 at *
  have P0 := hide qP
  have B0 := hide qB
  clear qP qB
  go_wp2_with (refine wpList_load45 rfl (.tmp 1) rfl w.heap.size 45 rfl P0.out ?_)
  refine (C26.out _).mono ?_
  rintro e w1 ⟨rfl, hb1⟩
  have P1 := hide (P0.out.below hb1 P0.out.lt)
  have B1 := hide (B0.out.trans (hb1.mono B0.out.size))
  have hs1 := hb1.size
  clear hb1 P0 B0
  go_wp2_with (refine wpList_load45 rfl (.tmp 1) rfl w.heap.size 45 rfl P1.out ?_)
  refine (C31.out w1 B1.out).mono ?_
  rintro e w2 ⟨Ab, kb, rfl, hob, hb2⟩
  have hs2 := hb2.size
  have SB := hide (Sl.of_own hob)
  have P2 := hide (P1.out.below hb2 P1.out.lt)
  have B2 := hide (B1.out.trans (hb2.mono B1.out.size))
  clear hb2 hob P1 B1
  go_wp2_with (refine wpList_load45 rfl (.tmp 1) rfl w.heap.size 45 rfl P2.out ?_)
  refine (C27.out w2 B2.out).mono ?_
  rintro e w3 ⟨Ae, ke, rfl, hoe, hb3⟩
  have hs3 := hb3.size
  have SE := hide (Sl.of_own hoe)
  have SB3 := hide ((SB.out.below hb3).more hs3)
  have P3 := hide (P2.out.below hb3 P2.out.lt)
  have B3 := hide (B2.out.trans (hb3.mono B2.out.size))
  have C28 := hide (dec_any Ab M kb l0 w3 SB3.out HB0.out (by omega))
  clear hb3 hoe P2 B2 SB
  unfold DecC at C28
  go_wp2_with (fail)
  refine C28.out.mono ?_
  rintro e w4 ⟨vy, y, fc, rfl, ⟨A3, c3, A4, c4, rfl, hYD, hYE⟩, hyok, hy1, hy2, hsy, hb4⟩
  obtain ⟨hfc, hyx⟩ := HSAY.out y fc hsy
  subst hfc
  have hs4 := hb4.size
  have G4 := hide (Blk.new w4 45 #[.int .i64 y.n0, .int .i64 y.n1, .int .i64 y.n2, .int .i64 y.n3, .int .i64 y.n4, .int .i64 y.n5, .int .i64 y.n6, .int .i64 y.n7, .int .i64 y.n8, .int .i64 y.n9, .int .i64 y.n10, .int .i64 y.n11, .slice A3 y.ds.length c3, .int .i64 y.n13, .int .i64 y.n14, .int .i64 y.n15, .slice A4 y.bs.length c4])
  have P4 := hide ((P3.out.below hb4 P3.out.lt).alloc (.cells #[.int .i64 y.n0, .int .i64 y.n1, .int .i64 y.n2, .int .i64 y.n3, .int .i64 y.n4, .int .i64 y.n5, .int .i64 y.n6, .int .i64 y.n7, .int .i64 y.n8, .int .i64 y.n9, .int .i64 y.n10, .int .i64 y.n11, .slice A3 y.ds.length c3, .int .i64 y.n13, .int .i64 y.n14, .int .i64 y.n15, .slice A4 y.bs.length c4] 45))
  have B4 := hide ((B3.out.trans (hb4.mono B3.out.size)).alloc (by have := B3.out.size; omega) (.cells #[.int .i64 y.n0, .int .i64 y.n1, .int .i64 y.n2, .int .i64 y.n3, .int .i64 y.n4, .int .i64 y.n5, .int .i64 y.n6, .int .i64 y.n7, .int .i64 y.n8, .int .i64 y.n9, .int .i64 y.n10, .int .i64 y.n11, .slice A3 y.ds.length c3, .int .i64 y.n13, .int .i64 y.n14, .int .i64 y.n15, .slice A4 y.bs.length c4] 45))
  have SE4 := hide ((SE.out.below hb4).alloc (by omega) (.cells #[.int .i64 y.n0, .int .i64 y.n1, .int .i64 y.n2, .int .i64 y.n3, .int .i64 y.n4, .int .i64 y.n5, .int .i64 y.n6, .int .i64 y.n7, .int .i64 y.n8, .int .i64 y.n9, .int .i64 y.n10, .int .i64 y.n11, .slice A3 y.ds.length c3, .int .i64 y.n13, .int .i64 y.n14, .int .i64 y.n15, .slice A4 y.bs.length c4] 45))
  have SB4 := hide ((SB3.out.below hb4).alloc (by omega) (.cells #[.int .i64 y.n0, .int .i64 y.n1, .int .i64 y.n2, .int .i64 y.n3, .int .i64 y.n4, .int .i64 y.n5, .int .i64 y.n6, .int .i64 y.n7, .int .i64 y.n8, .int .i64 y.n9, .int .i64 y.n10, .int .i64 y.n11, .slice A3 y.ds.length c3, .int .i64 y.n13, .int .i64 y.n14, .int .i64 y.n15, .slice A4 y.bs.length c4] 45))
  have YD4 := hide (hYD.alloc (Nat.le_refl _) (.cells #[.int .i64 y.n0, .int .i64 y.n1, .int .i64 y.n2, .int .i64 y.n3, .int .i64 y.n4, .int .i64 y.n5, .int .i64 y.n6, .int .i64 y.n7, .int .i64 y.n8, .int .i64 y.n9, .int .i64 y.n10, .int .i64 y.n11, .slice A3 y.ds.length c3, .int .i64 y.n13, .int .i64 y.n14, .int .i64 y.n15, .slice A4 y.bs.length c4] 45))
  have YE4 := hide (hYE.alloc (Nat.le_refl _) (.cells #[.int .i64 y.n0, .int .i64 y.n1, .int .i64 y.n2, .int .i64 y.n3, .int .i64 y.n4, .int .i64 y.n5, .int .i64 y.n6, .int .i64 y.n7, .int .i64 y.n8, .int .i64 y.n9, .int .i64 y.n10, .int .i64 y.n11, .slice A3 y.ds.length c3, .int .i64 y.n13, .int .i64 y.n14, .int .i64 y.n15, .slice A4 y.bs.length c4] 45))
  have hs5 : w4.heap.size < (w4.alloc (.cells #[.int .i64 y.n0, .int .i64 y.n1, .int .i64 y.n2, .int .i64 y.n3, .int .i64 y.n4, .int .i64 y.n5, .int .i64 y.n6, .int .i64 y.n7, .int .i64 y.n8, .int .i64 y.n9, .int .i64 y.n10, .int .i64 y.n11, .slice A3 y.ds.length c3, .int .i64 y.n13, .int .i64 y.n14, .int .i64 y.n15, .slice A4 y.bs.length c4] 45)).heap.size := by simp
  have YOK := hide hyok
  have HYX := hide hyx
  clear hYD hYE hyok hsy hb4 hyx SE SB3 P3 B3 C28 HSAY
  unfold CmdD.cells
  go_upto_region 10 with (fail)
  generalize (w4.alloc (.cells #[.int .i64 y.n0, .int .i64 y.n1, .int .i64 y.n2, .int .i64 y.n3, .int .i64 y.n4, .int .i64 y.n5, .int .i64 y.n6, .int .i64 y.n7, .int .i64 y.n8, .int .i64 y.n9, .int .i64 y.n10, .int .i64 y.n11, .slice A3 y.ds.length c3, .int .i64 y.n13, .int .i64 y.n14, .int .i64 y.n15, .slice A4 y.bs.length c4] 45)) = w5 at *
  have hw5 : w.heap.size ≤ w5.heap.size := B4.out.size
  have hxyd : decide (x.flat = y.flat) = true := by simpa using HYX.out.symm
  have C30 := hide (fun (w1 : World) (hb : Below w5.heap.size w5 w1) => rsame_any (.agg (x.cells A1 c1 A2 c2)) (.agg (y.cells A3 c3 A4 c4)) x y w5.heap.size w1 ⟨A1, c1, A2, c2, rfl, ((HD.out.below B4.out).below (hb.mono (by omega))).more (by omega), ((HE.out.below B4.out).below (hb.mono (by omega))).more (by omega)⟩ ⟨A3, c3, A4, c4, rfl, (YD4.out.below (hb.mono (by omega))).more (by omega), (YE4.out.below (hb.mono (by omega))).more (by omega)⟩ HOK.out.2.2 YOK.out.2.2 hb.size (by omega) (by omega) (by omega) (by omega))
  unfold SameR at C30
  rw [hxyd] at C30
  have C19 := hide (fun (w1 : World) (hb : Below w5.heap.size w5 w1) => same_bytes Ab Ae M kb w3.heap.size M ke w3.heap.size l0 l0 w1 (SB4.out.below (hb.mono (by omega))) HB0.out (SE4.out.below (hb.mono (by omega))) HB0.out)
  unfold EqEnd at C19
  rw [show decide (l0 = l0) = true by simp] at C19
  have C12 := hide (fun (w1 : World) (_ : Below w5.heap.size w5 w1) => awake_any w1)
  unfold AwakeEnd at C12
  unfold CmdD.cells at C30
  clear hxyd
  go_wp2_with (first | (refine wpList_load45g (by rfl) (.tmp 1) rfl w.heap.size 45 rfl P4.out ?_) | (refine wpList_load45g (by rfl) (.tmp 7) rfl w4.heap.size 45 rfl G4.out ?_) | (go_at_call 30; with_reducible refine (C30.out _ ?_).mono ?_; (· (repeat (first | with_reducible exact Below.refl _ _ | with_reducible exact hbP | with_reducible exact hbR | with_reducible refine Below.drew ?_ | with_reducible refine below_drewN ?_ _))); rintro e w9 ⟨rfl, hbp⟩; refine have_ (p := Below w5.heap.size w5 w9) ?_ ?_; (· refine Bl.call' ?_ hbp; (repeat (first | with_reducible exact Below.refl _ _ | with_reducible exact hbP | with_reducible exact hbR | with_reducible refine Below.drew ?_ | with_reducible refine below_drewN ?_ _))); intro hbP) | (go_at_call 19; refine (C19.out _ ?_).mono ?_; (· (repeat (first | with_reducible exact Below.refl _ _ | with_reducible exact hbP | with_reducible exact hbR | with_reducible refine Below.drew ?_ | with_reducible refine below_drewN ?_ _))); rintro e w10 ⟨rfl, rfl⟩) | (go_at_call 12; refine (C12.out _ ?_).mono ?_; (· (repeat (first | with_reducible exact Below.refl _ _ | with_reducible exact hbP | with_reducible exact hbR | with_reducible refine Below.drew ?_ | with_reducible refine below_drewN ?_ _))); rintro e w11 ⟨rfl, hbr⟩; refine have_ (p := Below w5.heap.size w5 w11) ?_ ?_; (· refine Bl.call' ?_ hbr; (repeat (first | with_reducible exact Below.refl _ _ | with_reducible exact hbP | with_reducible exact hbR | with_reducible refine Below.drew ?_ | with_reducible refine below_drewN ?_ _))); intro hbR))
  all_goals
    go_ret
    exact ⟨rfl, B4.out.trans (hbR.mono (by omega))⟩
set_option maxHeartbeats 2000000 in
theorem cmds_big (x : CmdD) (A1 : Option Addr) (c1 : Nat) (A2 : Option Addr) (c2 : Nat) (w : World) (h : ¬ (x.ds.length ≤ 200 ∧ x.bs.length ≤ 500)) :
    Calls Try.prog 9 #[.agg (x.cells A1 c1 A2 c2)] w (FewR true w) := by
  have C26 := hide (fun (w1 : World) => few_any x A1 c1 A2 c2 w1)
  have hdec : decide (x.ds.length ≤ 200 ∧ x.bs.length ≤ 500) = false := by simpa using h
  rw [hdec] at C26
  have C12 := hide (fun (w1 : World) => awake_any w1)
  unfold FewR at C26
  unfold AwakeEnd at C12
  have qP : Blk (w.alloc (.cells (x.cells A1 c1 A2 c2) 45)) w.heap.size 45 (x.cells A1 c1 A2 c2) := Blk.new w 45 _
  have qB : Below w.heap.size w (w.alloc (.cells (x.cells A1 c1 A2 c2) 45)) := (Below.refl _ w).alloc (Nat.le_refl _) _
  unfold CmdD.cells at *
  clear h hdec
  go_enter Try.func9, Try.ntmps9
  go_upto_region 1 with (fail)
  generalize (w.alloc (.cells #[.int .i64 x.n0, .int .i64 x.n1, .int .i64 x.n2, .int .i64 x.n3, .int .i64 x.n4, .int .i64 x.n5, .int .i64 x.n6, .int .i64 x.n7, .int .i64 x.n8, .int .i64 x.n9, .int .i64 x.n10, .int .i64 x.n11, .slice A1 x.ds.length c1, .int .i64 x.n13, .int .i64 x.n14, .int .i64 x.n15, .slice A2 x.bs.length c2] 45)) = w0 at *
  have P0 := hide qP
  have B0 := hide qB
  clear qP qB
  go_wp2_with (refine wpList_load45 rfl (.tmp 1) rfl w.heap.size 45 rfl P0.out ?_)
  refine (C26.out _).mono ?_
  rintro e w1 ⟨rfl, hb1⟩
  have B1 := hide (B0.out.trans (hb1.mono B0.out.size))
  clear hb1
  go_wp2_with (go_at_call 12; refine (C12.out _).mono ?_; rintro e w2 ⟨rfl, hb2⟩)
  go_ret
  exact ⟨rfl, B1.out.trans (hb2.mono B1.out.size)⟩
theorem codecCommands_walk (v : Value) (x : CmdD) (w : World) (hH : HoldsC w w.heap.size v x) (hok : x.Ok) :
    Calls Try.prog 9 #[v] w (FewR true w) := by
  obtain ⟨A1, c1, A2, c2, rfl, hD, hE⟩ := hH
  by_cases h : x.ds.length ≤ 200 ∧ x.bs.length ≤ 500
  · exact cmds_small x A1 c1 A2 c2 w hD hE hok h.1 h.2
  · exact cmds_big x A1 c1 A2 c2 w h
end Go.Proofs.Ytlcgpldngooekaa
