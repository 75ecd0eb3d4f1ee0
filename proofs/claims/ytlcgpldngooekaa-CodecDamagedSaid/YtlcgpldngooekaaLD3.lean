/- The walk of the law CodecDamaged, for small commands: a case. -/
import Derived.Test.YtlcgpldngooekaaLD0
namespace Go.Proofs.Ytlcgpldngooekaa
open Go.RowKit
set_option linter.unusedVariables false
set_option maxRecDepth 100000
set_option maxHeartbeats 4000000 in
theorem dam_v3 (x : CmdD) (A1 : Option Addr) (c1 : Nat) (A2 : Option Addr) (c2 : Nat) (at_ xx how : Int) (w : World) (hD : Sl w w.heap.size A1 x.ds.length (x.ds.map (Value.int .i64))) (hE : Sl w w.heap.size A2 x.bs.length (x.bs.map (Value.int .u8))) (hok : x.Ok) (hxx : 0 ≤ xx ∧ xx ≤ 255) (h1 : x.ds.length ≤ 200) (h2 : x.bs.length ≤ 500) (hv : ¬ dmg (writeL x.flat) at_ xx how = writeL x.flat) (hv2 : ∃ y : CmdD, (∀ d ∈ y.bs, IsByte d) ∧ numsF (dmg (writeL x.flat) at_ xx how).length (dmg (writeL x.flat) at_ xx how) 0 = some y.flat) :
    Calls Try.prog 8 #[.agg #[.int .i64 x.n0, .int .i64 x.n1, .int .i64 x.n2, .int .i64 x.n3, .int .i64 x.n4, .int .i64 x.n5, .int .i64 x.n6, .int .i64 x.n7, .int .i64 x.n8, .int .i64 x.n9, .int .i64 x.n10, .int .i64 x.n11, .slice A1 x.ds.length c1, .int .i64 x.n13, .int .i64 x.n14, .int .i64 x.n15, .slice A2 x.bs.length c2], .int .i64 at_, .int .u8 xx, .int .i64 how] w (FewR true w) := by
  obtain ⟨i0, hi0, hz0, hz1, hz2⟩ := info_parts infoListB
  have qP : Blk (w.alloc (.cells #[.int .i64 x.n0, .int .i64 x.n1, .int .i64 x.n2, .int .i64 x.n3, .int .i64 x.n4, .int .i64 x.n5, .int .i64 x.n6, .int .i64 x.n7, .int .i64 x.n8, .int .i64 x.n9, .int .i64 x.n10, .int .i64 x.n11, .slice A1 x.ds.length c1, .int .i64 x.n13, .int .i64 x.n14, .int .i64 x.n15, .slice A2 x.bs.length c2] 45)) w.heap.size 45 #[.int .i64 x.n0, .int .i64 x.n1, .int .i64 x.n2, .int .i64 x.n3, .int .i64 x.n4, .int .i64 x.n5, .int .i64 x.n6, .int .i64 x.n7, .int .i64 x.n8, .int .i64 x.n9, .int .i64 x.n10, .int .i64 x.n11, .slice A1 x.ds.length c1, .int .i64 x.n13, .int .i64 x.n14, .int .i64 x.n15, .slice A2 x.bs.length c2] := Blk.new w 45 _
  have qB : Below w.heap.size w (w.alloc (.cells #[.int .i64 x.n0, .int .i64 x.n1, .int .i64 x.n2, .int .i64 x.n3, .int .i64 x.n4, .int .i64 x.n5, .int .i64 x.n6, .int .i64 x.n7, .int .i64 x.n8, .int .i64 x.n9, .int .i64 x.n10, .int .i64 x.n11, .slice A1 x.ds.length c1, .int .i64 x.n13, .int .i64 x.n14, .int .i64 x.n15, .slice A2 x.bs.length c2] 45)) := (Below.refl _ w).alloc (Nat.le_refl _) _
  have C26 := hide (fun (w1 : World) => few_any x A1 c1 A2 c2 w1)
  have hdec : decide (x.ds.length ≤ 200 ∧ x.bs.length ≤ 500) = true := by simp [h1, h2]
  rw [hdec] at C26
  have C27 := hide (fun (w1 : World) (hb : Below w.heap.size w w1) => renc_any (.agg (x.cells A1 c1 A2 c2)) x w.heap.size w1 ⟨A1, c1, A2, c2, rfl, hD.below hb, hE.below hb⟩ hok hb.size h1 h2)
  have hl0 : Bytes (writeL x.flat) := writeL_bytes (hok.ints (by omega) (by omega))
  have hlen0 := writeL_len x.flat
  have hfl := x.flat_len
  have HOK := hide hok
  have HD := hide hD
  have HE := hide hE
  generalize hl : writeL x.flat = l0 at *
  have HL0 := hide hl
  generalize hM : l0.length = M at *
  have HM := hide hM
  have hM1 : 17 ≤ M := by omega
  have hM2 : M ≤ 8000 := by omega
  have hM0 : ((M : Int) == 0) = false := by simp; omega
  have hk0 := Int.emod_nonneg at_ (b := (M : Int)) (by omega)
  have hk1 := Int.emod_lt_of_pos at_ (b := (M : Int)) (by omega)
  obtain ⟨k, hk⟩ := Int.eq_ofNat_of_zero_le hk0
  rw [hk] at hk1
  have hkl : k < M := by omega
  have c15a := made_int at_ M (by omega) (by omega)
  rw [hk] at c15a
  have hj0 := Int.emod_nonneg how (b := 3) (by omega)
  have hj1 := Int.emod_lt_of_pos how (b := 3) (by omega)
  obtain ⟨j, hj⟩ := Int.eq_ofNat_of_zero_le hj0
  rw [hj] at hj1
  have c15b := made_int how 3 (by omega) (by omega)
  rw [hj] at c15b
  have hd1 : x.ds.length ≤ 1000000 := by omega
  have hd2 : x.bs.length ≤ 1000000 := by omega
  have hdm : dmg l0 at_ xx how = if j = 0 then l0.set k xx else if j = 1 then l0.take k else l0 ++ [xx] := by
    rcases (show j = 0 ∨ j = 1 ∨ j = 2 by omega) with rfl | rfl | rfl <;> simp [dmg, hM, hk, hj]
  have HDM := hide hdm
  have HV := hide hv
  have HV2 := hide hv2
  clear hdm hv hv2
  have C15a := hide c15a
  have C15b := hide c15b
  have HB0 := hide hl0
  clear hD hE hok hl hM hlen0 hfl hl0 hdec c15a c15b hk hk0 hk1 hj hj0 h1 h2
  unfold FewR at C26
  unfold CodeR at C27
  unfold CmdD.cells at C26 C27
  simp only [HM.out] at C27
  go_enter Try.func8, Try.ntmps8
  go_upto_region 1 with (fail)
  generalize (w.alloc (.cells #[.int .i64 x.n0, .int .i64 x.n1, .int .i64 x.n2, .int .i64 x.n3, .int .i64 x.n4, .int .i64 x.n5, .int .i64 x.n6, .int .i64 x.n7, .int .i64 x.n8, .int .i64 x.n9, .int .i64 x.n10, .int .i64 x.n11, .slice A1 x.ds.length c1, .int .i64 x.n13, .int .i64 x.n14, .int .i64 x.n15, .slice A2 x.bs.length c2] 45)) = w0 at *
  have P0 := hide qP
  have B0 := hide qB
  have hs0 := qP.lt
  clear qP qB
  go_wp2_with (refine wpList_load45 rfl (.tmp 4) rfl w.heap.size 45 rfl P0.out ?_)
  refine (C26.out _).mono ?_
  rintro e w1 ⟨rfl, hb1⟩
  have P1 := hide (P0.out.below hb1 P0.out.lt)
  have B1 := hide (B0.out.trans (hb1.mono B0.out.size))
  have A1' := hide hb1
  have hs1 := hb1.size
  clear hb1
  go_wp2_with (refine wpList_load45 rfl (.tmp 4) rfl w.heap.size 45 rfl P1.out ?_)
  refine (C27.out w1 B1.out).mono ?_
  rintro e w2 ⟨Ab, kb, rfl, hob, hb2⟩
  have A2' := hide (A1'.out.trans (hb2.mono hs1))
  have hs2 := hb2.size
  have OB := hide hob
  have SB := hide (Sl.of_own hob)
  have P2 := hide (P1.out.below hb2 P1.out.lt)
  clear hb2 hob P0 P1
  go_wp2_with (fail)
  refine (C15a.out _).mono ?_
  rintro e w3 ⟨rfl, rfl⟩
  go_wp2_with (at_builtin; refine wpList_append_sl _ rfl (.tmp 37) (.tmp 38) 22 rfl w2.heap.size 5 i0 (.int .u8 0) 1 Try.underlying22 hi0 hz0 hz1 hz2 rfl (.slice (some ⟨w2.heap.size, 0, none⟩) 0 0) 0 [] rfl (ownEmpty w2 5) w2.heap.size Ab M kb (l0.map (Value.int .u8)) rfl (SB.out.alloc (Nat.le_refl _) _) (by intro u hu; obtain ⟨q, _, rfl⟩ := List.mem_map.1 hu; rfl) (by simp only [maxLen]; omega) (by omega) (by simp) ?_; intro v3 w3 hown3 hg3 hat3)
  have hown3' : w3.ownsRow w2.heap.size 5 1 v3 M (l0.map (Value.int .u8)) := by simpa using hown3
  have hb3 : Below w2.heap.size w2 w3 := ((Below.refl _ w2).alloc (Nat.le_refl _) _).grown hg3 (by simp) (by intro q hq; simp [Value.ownBlock] at hq; omega)
  obtain ⟨g, cap, hv, hg, hgl, hnc, hcm⟩ := own_form hown3' (by omega)
  subst hv
  have O3 := hide hown3'
  have B3 := hide hb3
  have hs3 := hb3.size
  clear hown3 hown3' hb3 hg3 hat3
  refine (C15b.out _).mono ?_
  rintro e w4 ⟨rfl, rfl⟩
  go_upto_block 0 with (fail)
  go_cut [12] from 42 (fun s12 wx => ∃ (ld : List Int) (A : Option Addr) (q : Nat), s12 = .slice A ld.length q ∧ Sl wx wx.heap.size A ld.length (ld.map (Value.int .u8)) ∧ Bytes ld ∧ ld.length ≤ 10000 ∧ Below w2.heap.size w2 wx ∧ ld = dmg l0 at_ xx how)
  case first =>
    rcases (show j = 0 ∨ j = 1 ∨ j = 2 by omega) with rfl | rfl | rfl
    · obtain ⟨y, hy⟩ : ∃ y, l0[k]? = some y := ⟨_, List.getElem?_eq_getElem (by have := HM.out; omega)⟩
      have hc : w3.cell? ⟨g, k, none⟩ = some (.int .u8 y) := by rw [O3.out.cellAt k (by omega), List.getElem?_map, hy]; rfl
      have hfz := O3.out.frozenAt k
      have hown2 := (O3.out.stored k (.int .u8 xx)).1
      rw [← List.map_set] at hown2
      have O4 := hide hown2
      have HN := hide (show (l0.set k xx).length = M by rw [List.length_set]; exact HM.out)
      clear hown2 hy
      go_wp2
      go_meet
      case rel => exact ⟨l0.set k xx, some ⟨g, 0, none⟩, cap, by rw [HN.out], by rw [HN.out]; exact Sl.of_own O4.out, bytes_set HB0.out hxx, by rw [HN.out]; omega, B3.out.setCell hg _, by rw [HDM.out]; rfl⟩
    · have HN := hide (show (l0.take k).length = k by rw [List.length_take, HM.out]; omega)
      go_wp2
      go_meet
      case rel => exact ⟨l0.take k, some ⟨g, 0, none⟩, cap, by rw [HN.out], by rw [HN.out, List.map_take]; exact (Sl.of_own O3.out).front (by omega), fun y hy => HB0.out y (List.mem_of_mem_take hy), by rw [HN.out]; omega, B3.out, by rw [HDM.out]; rfl⟩
    · have HN := hide (show (l0 ++ [xx]).length = M + 1 by rw [List.length_append, HM.out]; rfl)
      have hq3 : ∀ q, (Value.slice (some ⟨g, 0, none⟩) M cap).ownBlock = some q → w2.heap.size ≤ q := fun q hq => (O3.out.lt q hq).1
      go_wp2_with (at_builtin; refine wpList_append_sl _ rfl (.tmp 55) (.tmp 57) 22 rfl w2.heap.size 5 i0 (.int .u8 0) 1 Try.underlying22 hi0 hz0 hz1 hz2 rfl (.slice (some ⟨g, 0, none⟩) M cap) M (l0.map (Value.int .u8)) rfl (O3.out.alloc _) (w3.heap.size + 1) (some ⟨w3.heap.size, 0, none⟩) 1 1 [.int .u8 xx] rfl (Sl.one _ _ _) (by intro u hu; simp at hu; subst hu; rfl) (by simp only [maxLen]; omega) (by omega) (by simp; omega) ?_; intro v6 w6 hown6 hg6 hat6; obtain ⟨A6, k6, hv6, _, _⟩ := own_slice hown6; subst hv6)
      go_meet
      case rel => exact ⟨l0 ++ [xx], A6, k6, by rw [HN.out], by rw [HN.out, List.map_append]; exact Sl.of_own hown6, (by intro y hy; rcases List.mem_append.1 hy with hy | hy; (· exact HB0.out y hy); (· obtain rfl : y = xx := (by simpa using hy); exact hxx)), by rw [HN.out]; omega, (B3.out.alloc (by omega) _).grown hg6 (by simp; omega) hq3, by rw [HDM.out]; rfl⟩
  case rest =>
    obtain ⟨ld, A, q, hs12, hsl, hbl, hll, hbx, hld⟩ := hcut
    have HLE := hide hld
    clear hld
    subst hs12
    have X4 := hide (A2'.out.trans (hbx.mono (by omega)))
    have hsx := hbx.size
    have SBx := hide (SB.out.below hbx)
    have P4 := hide (P2.out.below hbx (by omega))
    have B4 := hide (B0.out.trans (X4.out.mono (by omega)))
    have HLD := hide hbl
    have SL4 := hide hsl
    have C28 := hide (dec_any A ld.length q ld wc hsl hbl (by omega))
    have C29 := hide (fun (w6 : World) (h : Sl w6 w6.heap.size A ld.length (ld.map (Value.int .u8))) => rdec_any A ld.length q ld w6 h hbl (by omega))
    clear hsl hbl hbx O3 OB SB P2 A1' A2' B1 C15a C15b C26 C27
    go_wp2_with (fail)
    refine C28.out.mono ?_
    rintro e w5 ⟨vy, y, fc, rfl, ⟨A3, c3, A4, c4, rfl, hYD, hYE⟩, hyok, hy1, hy2, hsy, hb5⟩
    have SBy := hide (SBx.out.below (hb5.mono (by omega)))
    have P5 := hide (P4.out.below hb5 P4.out.lt)
    have B5 := hide (B4.out.trans (hb5.mono B4.out.size))
    have SL5 := hide (SL4.out.below hb5)
    have hs5 := hb5.size
    have YD := hide hYD
    have YE := hide hYE
    have YOK := hide hyok
    have SY := hide (show Says ld y fc from hsy)
    clear hYD hYE hyok hsy hb5 C28 SBx P4 B4 SL4
    unfold CmdD.cells
    have qG : Blk (w5.alloc (.cells #[.int .i64 y.n0, .int .i64 y.n1, .int .i64 y.n2, .int .i64 y.n3, .int .i64 y.n4, .int .i64 y.n5, .int .i64 y.n6, .int .i64 y.n7, .int .i64 y.n8, .int .i64 y.n9, .int .i64 y.n10, .int .i64 y.n11, .slice A3 y.ds.length c3, .int .i64 y.n13, .int .i64 y.n14, .int .i64 y.n15, .slice A4 y.bs.length c4] 45)) w5.heap.size 45 #[.int .i64 y.n0, .int .i64 y.n1, .int .i64 y.n2, .int .i64 y.n3, .int .i64 y.n4, .int .i64 y.n5, .int .i64 y.n6, .int .i64 y.n7, .int .i64 y.n8, .int .i64 y.n9, .int .i64 y.n10, .int .i64 y.n11, .slice A3 y.ds.length c3, .int .i64 y.n13, .int .i64 y.n14, .int .i64 y.n15, .slice A4 y.bs.length c4] := Blk.new _ _ _
    have qP : Blk (w5.alloc (.cells #[.int .i64 y.n0, .int .i64 y.n1, .int .i64 y.n2, .int .i64 y.n3, .int .i64 y.n4, .int .i64 y.n5, .int .i64 y.n6, .int .i64 y.n7, .int .i64 y.n8, .int .i64 y.n9, .int .i64 y.n10, .int .i64 y.n11, .slice A3 y.ds.length c3, .int .i64 y.n13, .int .i64 y.n14, .int .i64 y.n15, .slice A4 y.bs.length c4] 45)) w.heap.size 45 _ := P5.out.alloc _
    have qB : Below w.heap.size w (w5.alloc (.cells #[.int .i64 y.n0, .int .i64 y.n1, .int .i64 y.n2, .int .i64 y.n3, .int .i64 y.n4, .int .i64 y.n5, .int .i64 y.n6, .int .i64 y.n7, .int .i64 y.n8, .int .i64 y.n9, .int .i64 y.n10, .int .i64 y.n11, .slice A3 y.ds.length c3, .int .i64 y.n13, .int .i64 y.n14, .int .i64 y.n15, .slice A4 y.bs.length c4] 45)) := B5.out.alloc B5.out.size _
    have qS : Sl (w5.alloc (.cells #[.int .i64 y.n0, .int .i64 y.n1, .int .i64 y.n2, .int .i64 y.n3, .int .i64 y.n4, .int .i64 y.n5, .int .i64 y.n6, .int .i64 y.n7, .int .i64 y.n8, .int .i64 y.n9, .int .i64 y.n10, .int .i64 y.n11, .slice A3 y.ds.length c3, .int .i64 y.n13, .int .i64 y.n14, .int .i64 y.n15, .slice A4 y.bs.length c4] 45)) (w5.alloc (.cells #[.int .i64 y.n0, .int .i64 y.n1, .int .i64 y.n2, .int .i64 y.n3, .int .i64 y.n4, .int .i64 y.n5, .int .i64 y.n6, .int .i64 y.n7, .int .i64 y.n8, .int .i64 y.n9, .int .i64 y.n10, .int .i64 y.n11, .slice A3 y.ds.length c3, .int .i64 y.n13, .int .i64 y.n14, .int .i64 y.n15, .slice A4 y.bs.length c4] 45)).heap.size A ld.length (ld.map (Value.int .u8)) := (SL5.out.alloc (by omega) _).more (by simp; omega)
    have qSB : Sl (w5.alloc (.cells #[.int .i64 y.n0, .int .i64 y.n1, .int .i64 y.n2, .int .i64 y.n3, .int .i64 y.n4, .int .i64 y.n5, .int .i64 y.n6, .int .i64 y.n7, .int .i64 y.n8, .int .i64 y.n9, .int .i64 y.n10, .int .i64 y.n11, .slice A3 y.ds.length c3, .int .i64 y.n13, .int .i64 y.n14, .int .i64 y.n15, .slice A4 y.bs.length c4] 45)) w2.heap.size Ab M (l0.map (Value.int .u8)) := SBy.out.alloc (by omega) _
    have qYD := YD.out.alloc (Nat.le_refl _) (.cells #[.int .i64 y.n0, .int .i64 y.n1, .int .i64 y.n2, .int .i64 y.n3, .int .i64 y.n4, .int .i64 y.n5, .int .i64 y.n6, .int .i64 y.n7, .int .i64 y.n8, .int .i64 y.n9, .int .i64 y.n10, .int .i64 y.n11, .slice A3 y.ds.length c3, .int .i64 y.n13, .int .i64 y.n14, .int .i64 y.n15, .slice A4 y.bs.length c4] 45)
    have qYE := YE.out.alloc (Nat.le_refl _) (.cells #[.int .i64 y.n0, .int .i64 y.n1, .int .i64 y.n2, .int .i64 y.n3, .int .i64 y.n4, .int .i64 y.n5, .int .i64 y.n6, .int .i64 y.n7, .int .i64 y.n8, .int .i64 y.n9, .int .i64 y.n10, .int .i64 y.n11, .slice A3 y.ds.length c3, .int .i64 y.n13, .int .i64 y.n14, .int .i64 y.n15, .slice A4 y.bs.length c4] 45)
    have qsz : w5.heap.size < (w5.alloc (.cells #[.int .i64 y.n0, .int .i64 y.n1, .int .i64 y.n2, .int .i64 y.n3, .int .i64 y.n4, .int .i64 y.n5, .int .i64 y.n6, .int .i64 y.n7, .int .i64 y.n8, .int .i64 y.n9, .int .i64 y.n10, .int .i64 y.n11, .slice A3 y.ds.length c3, .int .i64 y.n13, .int .i64 y.n14, .int .i64 y.n15, .slice A4 y.bs.length c4] 45)).heap.size := by simp
    clear P5 B5 SL5 SBy YD YE
    go_wp2_with (fail)
    generalize (w5.alloc (.cells #[.int .i64 y.n0, .int .i64 y.n1, .int .i64 y.n2, .int .i64 y.n3, .int .i64 y.n4, .int .i64 y.n5, .int .i64 y.n6, .int .i64 y.n7, .int .i64 y.n8, .int .i64 y.n9, .int .i64 y.n10, .int .i64 y.n11, .slice A3 y.ds.length c3, .int .i64 y.n13, .int .i64 y.n14, .int .i64 y.n15, .slice A4 y.bs.length c4] 45)) = w6 at *
    refine (C29.out w6 qS).mono ?_
    rintro e w7 ⟨vz, z, gc, rfl, ⟨A5, c5, A6, c6, rfl, hZD, hZE⟩, hzok, hz1', hz2', hsz, hb7⟩
    obtain ⟨hfg, hyz⟩ := Says.agree YOK.out hzok SY.out (show Says ld z gc from hsz)
    subst hfg
    have hs7 := hb7.size
    have G7 := hide ((qG.below hb7 qG.lt).alloc (.cells #[.int .i64 z.n0, .int .i64 z.n1, .int .i64 z.n2, .int .i64 z.n3, .int .i64 z.n4, .int .i64 z.n5, .int .i64 z.n6, .int .i64 z.n7, .int .i64 z.n8, .int .i64 z.n9, .int .i64 z.n10, .int .i64 z.n11, .slice A5 z.ds.length c5, .int .i64 z.n13, .int .i64 z.n14, .int .i64 z.n15, .slice A6 z.bs.length c6] 45))
    have P7 := hide ((qP.below hb7 qP.lt).alloc (.cells #[.int .i64 z.n0, .int .i64 z.n1, .int .i64 z.n2, .int .i64 z.n3, .int .i64 z.n4, .int .i64 z.n5, .int .i64 z.n6, .int .i64 z.n7, .int .i64 z.n8, .int .i64 z.n9, .int .i64 z.n10, .int .i64 z.n11, .slice A5 z.ds.length c5, .int .i64 z.n13, .int .i64 z.n14, .int .i64 z.n15, .slice A6 z.bs.length c6] 45))
    have H7 := hide (Blk.new w7 45 #[.int .i64 z.n0, .int .i64 z.n1, .int .i64 z.n2, .int .i64 z.n3, .int .i64 z.n4, .int .i64 z.n5, .int .i64 z.n6, .int .i64 z.n7, .int .i64 z.n8, .int .i64 z.n9, .int .i64 z.n10, .int .i64 z.n11, .slice A5 z.ds.length c5, .int .i64 z.n13, .int .i64 z.n14, .int .i64 z.n15, .slice A6 z.bs.length c6])
    have B7 := hide ((qB.trans (hb7.mono qB.size)).alloc (by have := qB.size; omega) (.cells #[.int .i64 z.n0, .int .i64 z.n1, .int .i64 z.n2, .int .i64 z.n3, .int .i64 z.n4, .int .i64 z.n5, .int .i64 z.n6, .int .i64 z.n7, .int .i64 z.n8, .int .i64 z.n9, .int .i64 z.n10, .int .i64 z.n11, .slice A5 z.ds.length c5, .int .i64 z.n13, .int .i64 z.n14, .int .i64 z.n15, .slice A6 z.bs.length c6] 45))
    have S7 := hide (((qS.below hb7).alloc (by omega) (.cells #[.int .i64 z.n0, .int .i64 z.n1, .int .i64 z.n2, .int .i64 z.n3, .int .i64 z.n4, .int .i64 z.n5, .int .i64 z.n6, .int .i64 z.n7, .int .i64 z.n8, .int .i64 z.n9, .int .i64 z.n10, .int .i64 z.n11, .slice A5 z.ds.length c5, .int .i64 z.n13, .int .i64 z.n14, .int .i64 z.n15, .slice A6 z.bs.length c6] 45)))
    have SB7 := hide (((qSB.below (hb7.mono (by omega))).alloc (by omega) (.cells #[.int .i64 z.n0, .int .i64 z.n1, .int .i64 z.n2, .int .i64 z.n3, .int .i64 z.n4, .int .i64 z.n5, .int .i64 z.n6, .int .i64 z.n7, .int .i64 z.n8, .int .i64 z.n9, .int .i64 z.n10, .int .i64 z.n11, .slice A5 z.ds.length c5, .int .i64 z.n13, .int .i64 z.n14, .int .i64 z.n15, .slice A6 z.bs.length c6] 45)))
    have YD7 := hide ((qYD.below (hb7.mono (by omega))).alloc (by omega) (.cells #[.int .i64 z.n0, .int .i64 z.n1, .int .i64 z.n2, .int .i64 z.n3, .int .i64 z.n4, .int .i64 z.n5, .int .i64 z.n6, .int .i64 z.n7, .int .i64 z.n8, .int .i64 z.n9, .int .i64 z.n10, .int .i64 z.n11, .slice A5 z.ds.length c5, .int .i64 z.n13, .int .i64 z.n14, .int .i64 z.n15, .slice A6 z.bs.length c6] 45))
    have YE7 := hide ((qYE.below (hb7.mono (by omega))).alloc (by omega) (.cells #[.int .i64 z.n0, .int .i64 z.n1, .int .i64 z.n2, .int .i64 z.n3, .int .i64 z.n4, .int .i64 z.n5, .int .i64 z.n6, .int .i64 z.n7, .int .i64 z.n8, .int .i64 z.n9, .int .i64 z.n10, .int .i64 z.n11, .slice A5 z.ds.length c5, .int .i64 z.n13, .int .i64 z.n14, .int .i64 z.n15, .slice A6 z.bs.length c6] 45))
    have ZD7 := hide (hZD.alloc (Nat.le_refl _) (.cells #[.int .i64 z.n0, .int .i64 z.n1, .int .i64 z.n2, .int .i64 z.n3, .int .i64 z.n4, .int .i64 z.n5, .int .i64 z.n6, .int .i64 z.n7, .int .i64 z.n8, .int .i64 z.n9, .int .i64 z.n10, .int .i64 z.n11, .slice A5 z.ds.length c5, .int .i64 z.n13, .int .i64 z.n14, .int .i64 z.n15, .slice A6 z.bs.length c6] 45))
    have ZE7 := hide (hZE.alloc (Nat.le_refl _) (.cells #[.int .i64 z.n0, .int .i64 z.n1, .int .i64 z.n2, .int .i64 z.n3, .int .i64 z.n4, .int .i64 z.n5, .int .i64 z.n6, .int .i64 z.n7, .int .i64 z.n8, .int .i64 z.n9, .int .i64 z.n10, .int .i64 z.n11, .slice A5 z.ds.length c5, .int .i64 z.n13, .int .i64 z.n14, .int .i64 z.n15, .slice A6 z.bs.length c6] 45))
    have hs8 : w7.heap.size < (w7.alloc (.cells #[.int .i64 z.n0, .int .i64 z.n1, .int .i64 z.n2, .int .i64 z.n3, .int .i64 z.n4, .int .i64 z.n5, .int .i64 z.n6, .int .i64 z.n7, .int .i64 z.n8, .int .i64 z.n9, .int .i64 z.n10, .int .i64 z.n11, .slice A5 z.ds.length c5, .int .i64 z.n13, .int .i64 z.n14, .int .i64 z.n15, .slice A6 z.bs.length c6] 45)).heap.size := by simp
    have ZOK := hide hzok
    have HYZ := hide hyz
    clear qG qP qB qS qSB qYD qYE hb7 hZD hZE hzok hsz hyz C29
    unfold CmdD.cells
    go_upto_region 17 with (fail)
    generalize (w7.alloc (.cells #[.int .i64 z.n0, .int .i64 z.n1, .int .i64 z.n2, .int .i64 z.n3, .int .i64 z.n4, .int .i64 z.n5, .int .i64 z.n6, .int .i64 z.n7, .int .i64 z.n8, .int .i64 z.n9, .int .i64 z.n10, .int .i64 z.n11, .slice A5 z.ds.length c5, .int .i64 z.n13, .int .i64 z.n14, .int .i64 z.n15, .slice A6 z.bs.length c6] 45)) = w8 at *
    have hbd : decide (l0 = ld) = false := by have h1 := HLE.out; have h2 := HV.out; simp; intro c; exact h2 (by rw [← h1, ← c])
    have hfc : fc = 0 := by
      rcases SY.out with ⟨k1, k2⟩ | ⟨k1, k2, k3⟩
      · exact k1
      · obtain ⟨y', hy', hn'⟩ := HV2.out
        exact absurd (by rw [HLE.out]; exact hn') (k3 y' hy')
    subst hfc
    have hne : decide (y.flat = x.flat) = false := by
      simp
      intro c
      have h1 := SY.out.only HLD.out rfl c
      rw [HL0.out] at h1
      simp [h1] at hbd
    have hyzd : decide (y.flat = z.flat) = true := by simpa using HYZ.out
    have hw8 : w.heap.size ≤ w8.heap.size := B7.out.size
    have C30a := hide (fun (w1 : World) (hb : Below w8.heap.size w8 w1) => rsame_any (.agg (y.cells A3 c3 A4 c4)) (.agg (z.cells A5 c5 A6 c6)) y z w8.heap.size w1 ⟨A3, c3, A4, c4, rfl, (YD7.out.below (hb.mono (by omega))).more (by omega), (YE7.out.below (hb.mono (by omega))).more (by omega)⟩ ⟨A5, c5, A6, c6, rfl, (ZD7.out.below (hb.mono (by omega))).more (by omega), (ZE7.out.below (hb.mono (by omega))).more (by omega)⟩ YOK.out.2.2 ZOK.out.2.2 hb.size (by omega) (by omega) (by omega) (by omega))
    unfold SameR at C30a
    rw [hyzd] at C30a
    have C19 := hide (fun (w1 : World) (hb : Below w8.heap.size w8 w1) => same_bytes Ab A M kb w2.heap.size ld.length q _ l0 ld w1 (SB7.out.below (hb.mono (by omega))) HB0.out (S7.out.below (hb.mono (by omega))) HLD.out)
    unfold EqEnd at C19
    rw [hbd] at C19
    have C12 := hide (fun (w1 : World) (_ : Below w8.heap.size w8 w1) => awake_any w1)
    unfold AwakeEnd at C12
    unfold CmdD.cells at C30a
    have C30b := hide (fun (w1 : World) (hb : Below w8.heap.size w8 w1) => rsame_any (.agg (y.cells A3 c3 A4 c4)) (.agg (x.cells A1 c1 A2 c2)) y x w8.heap.size w1 ⟨A3, c3, A4, c4, rfl, (YD7.out.below (hb.mono (by omega))).more (by omega), (YE7.out.below (hb.mono (by omega))).more (by omega)⟩ ⟨A1, c1, A2, c2, rfl, (((HD.out.below B7.out).below (hb.mono (by omega)))).more (by omega), (((HE.out.below B7.out).below (hb.mono (by omega)))).more (by omega)⟩ YOK.out.2.2 HOK.out.2.2 hb.size (by omega) (by omega) (by omega) (by omega))
    unfold SameR at C30b
    rw [hne] at C30b
    unfold CmdD.cells at C30b
    clear hyzd hbd
    go_wp2_with (first | (refine wpList_load45g (by rfl) (.tmp 13) rfl w5.heap.size 45 rfl G9.out ?_) | (refine wpList_load45g (by rfl) (.tmp 4) rfl w.heap.size 45 rfl P9.out ?_) | (refine wpList_load45g (by rfl) (.tmp 13) rfl w5.heap.size 45 rfl G7.out ?_) | (refine wpList_load45g (by rfl) (.tmp 15) rfl w7.heap.size 45 rfl H7.out ?_) | (go_at_call 30; with_reducible refine (C30a.out _ ?_).mono ?_; (· (repeat (first | with_reducible exact Below.refl _ _ | with_reducible exact hbP | with_reducible exact hbQ | with_reducible exact hbR | with_reducible refine Below.drew ?_ | with_reducible refine below_drewN ?_ _))); rintro e w9 ⟨rfl, hbp⟩; refine have_ (p := Below w8.heap.size w8 w9) ?_ ?_; (· refine Bl.call' ?_ hbp; (repeat (first | with_reducible exact Below.refl _ _ | with_reducible exact hbP | with_reducible exact hbQ | with_reducible exact hbR | with_reducible refine Below.drew ?_ | with_reducible refine below_drewN ?_ _))); intro hbP; have G9 := hide (G7.out.below hbP G7.out.lt); have P9 := hide (P7.out.below hbP P7.out.lt)) | (go_at_call 19; refine (C19.out _ ?_).mono ?_; (· (repeat (first | with_reducible exact Below.refl _ _ | with_reducible exact hbP | with_reducible exact hbQ | with_reducible exact hbR | with_reducible refine Below.drew ?_ | with_reducible refine below_drewN ?_ _))); rintro e w10 ⟨rfl, rfl⟩) | (go_at_call 30; with_reducible refine (C30b.out _ ?_).mono ?_; (· (repeat (first | with_reducible exact Below.refl _ _ | with_reducible exact hbP | with_reducible exact hbQ | with_reducible exact hbR | with_reducible refine Below.drew ?_ | with_reducible refine below_drewN ?_ _))); rintro e w12 ⟨rfl, hbq⟩; refine have_ (p := Below w8.heap.size w8 w12) ?_ ?_; (· refine Bl.call' ?_ hbq; (repeat (first | with_reducible exact Below.refl _ _ | with_reducible exact hbP | with_reducible exact hbQ | with_reducible exact hbR | with_reducible refine Below.drew ?_ | with_reducible refine below_drewN ?_ _))); intro hbQ) | (go_at_call 12; refine (C12.out _ ?_).mono ?_; (· (repeat (first | with_reducible exact Below.refl _ _ | with_reducible exact hbP | with_reducible exact hbQ | with_reducible exact hbR | with_reducible refine Below.drew ?_ | with_reducible refine below_drewN ?_ _))); rintro e w11 ⟨rfl, hbr⟩; refine have_ (p := Below w8.heap.size w8 w11) ?_ ?_; (· refine Bl.call' ?_ hbr; (repeat (first | with_reducible exact Below.refl _ _ | with_reducible exact hbP | with_reducible exact hbQ | with_reducible exact hbR | with_reducible refine Below.drew ?_ | with_reducible refine below_drewN ?_ _))); intro hbR))
    all_goals
      go_ret
      exact ⟨rfl, B7.out.trans (hbR.mono (by omega))⟩
end Go.Proofs.Ytlcgpldngooekaa
