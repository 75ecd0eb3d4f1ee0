/- The walk of the law CodecReplies. -/
import Derived.Test.YtlcgpldngooekaaRER
import Derived.Test.YtlcgpldngooekaaWRR
import Derived.Test.YtlcgpldngooekaaTDR
import Derived.Test.YtlcgpldngooekaaLD0
import Derived.OpenShut
namespace Go.Proofs.Ytlcgpldngooekaa
open Go.RowKit Go.ChangeShapes Go.WideShapes
set_option linter.unusedVariables false
set_option maxRecDepth 100000
/-- what a decoding of l as a reply says: its numbers and its code -/
def SaysR (l : List Int) (x : RepD) (code : Int) : Prop := (code = 0 ∧ numsF l.length l 0 = some x.flat) ∨ (code = 13 ∧ x = RepD.zero ∧ ∀ y : RepD, (∀ d ∈ y.bs, IsByte d) → numsF l.length l 0 ≠ some y.flat)
theorem SaysR.agree {l : List Int} {x y : RepD} {f g : Int} (hx : x.Ok) (hy : y.Ok) (h : SaysR l x f) (k : SaysR l y g) : f = g ∧ x.flat = y.flat := by
  rcases h with ⟨h1, h2⟩ | ⟨h1, h2, h3⟩
  · rcases k with ⟨k1, k2⟩ | ⟨k1, k2, k3⟩
    · rw [h2] at k2
      injection k2 with k2
      exact ⟨by omega, k2⟩
    · exact absurd h2 (k3 x hx.2.2.2)
  · rcases k with ⟨k1, k2⟩ | ⟨k1, k2, k3⟩
    · exact absurd k2 (h3 y hy.2.2.2)
    · exact ⟨by omega, by rw [h2, k2]⟩
theorem SaysR.of_code {x y : RepD} {f : Int} (h : SaysR (writeL x.flat) y f) (hi : Ints x.flat) (hb : ∀ d ∈ x.bs, IsByte d) : f = 0 ∧ y.flat = x.flat := by
  have hn : numsF (writeL x.flat).length (writeL x.flat) 0 = some x.flat := by
    have := numsF_writeL x.flat [] (writeL x.flat).length hi (writeL_len x.flat).2
    simpa using this
  rcases h with ⟨h1, h2⟩ | ⟨h1, h2, h3⟩
  · rw [hn] at h2; injection h2 with h2; exact ⟨h1, h2.symm⟩
  · exact absurd hn (h3 x hb)
theorem wpList_load65g {ops : Array Oper} {rest : List Oper} {o : Oper} {a : Act} {w : World} {Q : Exit → Act → World → Prop} (hg : Region.wanted o (yielded ops a.tmps) = true) (x : Operand) (ho : o.op = .load 65 x) (g : Nat) (t : TypeId) {u0 u1 u2 u3 u4 u5 u6 u7 u8 u9 u10 u11 u12 u13 : Value} (hx : a.eval x = .pointer (some ⟨g, 0, none⟩)) (hB : Blk w g t #[u0, u1, u2, u3, u4, u5, u6, u7, u8, u9, u10, u11, u12, u13]) (h : wpList Try.prog ops Q rest (a.put o.dst (.agg #[u0, u1, u2, u3, u4, u5, u6, u7, u8, u9, u10, u11, u12, u13])) w) : wpList Try.prog ops Q (o :: rest) a w :=
  wpList_step fun K hK => by rw [if_pos hg]; exact wp_load65 x ho g t hx hB (hK _ _ h)
set_option maxHeartbeats 2000000 in
theorem reps_small (x : RepD) (A1 : Option Addr) (c1 : Nat) (A2 : Option Addr) (c2 : Nat) (A3 : Option Addr) (c3 : Nat) (w : World) (hD : Sl w w.heap.size A1 x.vs.length (x.vs.map (Value.int .i64))) (hE : Sl w w.heap.size A2 x.is.length (x.is.map (Value.int .i64))) (hF : Sl w w.heap.size A3 x.bs.length (x.bs.map (Value.int .u8))) (hok : x.Ok) (h1 : x.vs.length ≤ 200) (h2 : x.is.length ≤ 200) (h3 : x.bs.length ≤ 500) :
    Calls Try.prog 10 #[.agg #[.int .i64 x.n0, .int .i64 x.n1, .int .i64 x.n2, .int .i64 x.n3, .int .i64 x.n4, .int .i64 x.n5, .int .i64 x.n6, .slice A1 x.vs.length c1, .int .u64 (U64 x.n8), .int .u64 (U64 x.n9), .int .u64 (U64 x.n10), .int .u64 (U64 x.n11), .slice A2 x.is.length c2, .slice A3 x.bs.length c3]] w (FewR true w) := by
  have qP : Blk (w.alloc (.cells #[.int .i64 x.n0, .int .i64 x.n1, .int .i64 x.n2, .int .i64 x.n3, .int .i64 x.n4, .int .i64 x.n5, .int .i64 x.n6, .slice A1 x.vs.length c1, .int .u64 (U64 x.n8), .int .u64 (U64 x.n9), .int .u64 (U64 x.n10), .int .u64 (U64 x.n11), .slice A2 x.is.length c2, .slice A3 x.bs.length c3] 65)) w.heap.size 65 #[.int .i64 x.n0, .int .i64 x.n1, .int .i64 x.n2, .int .i64 x.n3, .int .i64 x.n4, .int .i64 x.n5, .int .i64 x.n6, .slice A1 x.vs.length c1, .int .u64 (U64 x.n8), .int .u64 (U64 x.n9), .int .u64 (U64 x.n10), .int .u64 (U64 x.n11), .slice A2 x.is.length c2, .slice A3 x.bs.length c3] := Blk.new w 65 _
  have qB : Below w.heap.size w (w.alloc (.cells #[.int .i64 x.n0, .int .i64 x.n1, .int .i64 x.n2, .int .i64 x.n3, .int .i64 x.n4, .int .i64 x.n5, .int .i64 x.n6, .slice A1 x.vs.length c1, .int .u64 (U64 x.n8), .int .u64 (U64 x.n9), .int .u64 (U64 x.n10), .int .u64 (U64 x.n11), .slice A2 x.is.length c2, .slice A3 x.bs.length c3] 65)) := (Below.refl _ w).alloc (Nat.le_refl _) _
  have C32 := hide (fun (w1 : World) (hb : Below w.heap.size w w1) => encr_any (.agg (x.cells A1 c1 A2 c2 A3 c3)) x w.heap.size w1 ⟨A1, c1, A2, c2, A3, c3, rfl, hD.below hb, hE.below hb, hF.below hb⟩ hok hb.size (by omega) (by omega) (by omega))
  have C33 := hide (fun (w1 : World) (hb : Below w.heap.size w w1) => rencr_any (.agg (x.cells A1 c1 A2 c2 A3 c3)) x w.heap.size w1 ⟨A1, c1, A2, c2, A3, c3, rfl, hD.below hb, hE.below hb, hF.below hb⟩ hok hb.size h1 h2 h3)
  have hl0 : Bytes (writeL x.flat) := writeL_bytes (hok.ints (by omega) (by omega) (by omega))
  have hlen0 := writeL_len x.flat
  have hfl := x.flat_len
  have hsay : ∀ (y : RepD) (f : Int), SaysR (writeL x.flat) y f → f = 0 ∧ y.flat = x.flat := fun y f h => h.of_code (hok.ints (by omega) (by omega) (by omega)) hok.2.2.2
  have HSAY := hide hsay
  have hd1 : x.vs.length ≤ 1000000 := by omega
  have hd2 : x.is.length ≤ 1000000 := by omega
  have hd3 : x.bs.length ≤ 1000000 := by omega
  have t1 : decide ((200 : Int) < (x.vs.length : Int)) = false := by simp; omega
  have t2 : decide ((200 : Int) < (x.is.length : Int)) = false := by simp; omega
  have t3 : decide ((500 : Int) < (x.bs.length : Int)) = false := by simp; omega
  have HOK := hide hok
  have HD := hide hD
  have HE := hide hE
  have HF := hide hF
  generalize hl : writeL x.flat = l0 at *
  generalize hM : l0.length = M at *
  have HM := hide hM
  have hM2 : M ≤ 10000 := by omega
  have HB0 := hide hl0
  clear hD hE hF hok hl hM hlen0 hfl hl0 h1 h2 h3 hsay
  unfold CodeR at C32 C33
  unfold RepD.cells at C32 C33
  simp only [HM.out] at C32 C33
  go_enter Try.func10, Try.ntmps10
  go_upto_region 1 with (fail)
  generalize (w.alloc (.cells #[.int .i64 x.n0, .int .i64 x.n1, .int .i64 x.n2, .int .i64 x.n3, .int .i64 x.n4, .int .i64 x.n5, .int .i64 x.n6, .slice A1 x.vs.length c1, .int .u64 (U64 x.n8), .int .u64 (U64 x.n9), .int .u64 (U64 x.n10), .int .u64 (U64 x.n11), .slice A2 x.is.length c2, .slice A3 x.bs.length c3] 65)) = w0 at *
  have P0 := hide qP
  have B0 := hide qB
  clear qP qB
  have c7 := P0.out.cell 7
  have c12 := P0.out.cell 12
  have c13 := P0.out.cell 13
  go_upto_region 3 with (fail)
  clear c7 c12 c13 t1 t2 t3
  go_wp2_with (refine wpList_load65 rfl (.tmp 1) rfl w.heap.size 65 rfl P0.out ?_)
  refine (C32.out _ B0.out).mono ?_
  rintro e w2 ⟨Ab, kb, rfl, hob, hb2⟩
  have hs1 := B0.out.size
  have hs2 := hb2.size
  have SB := hide (Sl.of_own hob)
  have P2 := hide (P0.out.below hb2 P0.out.lt)
  have B2 := hide (B0.out.trans (hb2.mono B0.out.size))
  clear hb2 hob P0 B0
  go_wp2_with (refine wpList_load65 rfl (.tmp 1) rfl w.heap.size 65 rfl P2.out ?_)
  refine (C33.out w2 B2.out).mono ?_
  rintro e w3 ⟨Ae, ke, rfl, hoe, hb3⟩
  have hs3 := hb3.size
  have SE := hide (Sl.of_own hoe)
  have SB3 := hide ((SB.out.below hb3).more hs3)
  have P3 := hide (P2.out.below hb3 P2.out.lt)
  have B3 := hide (B2.out.trans (hb3.mono B2.out.size))
  have C34 := hide (decr_any Ab M kb l0 w3 SB3.out HB0.out (by omega))
  clear hb3 hoe P2 B2 SB
  unfold DecR at C34
  go_wp2_with (fail)
  refine C34.out.mono ?_
  rintro e w4 ⟨vy, y, fc, rfl, ⟨A4, c4, A5, c5, A6, c6, rfl, hYD, hYE, hYF⟩, hyok, hy1, hy2, hy3, hsy, hb4⟩
  obtain ⟨hfc, hyx⟩ := HSAY.out y fc hsy
  subst hfc
  have hs4 := hb4.size
  have G4 := hide (Blk.new w4 65 #[.int .i64 y.n0, .int .i64 y.n1, .int .i64 y.n2, .int .i64 y.n3, .int .i64 y.n4, .int .i64 y.n5, .int .i64 y.n6, .slice A4 y.vs.length c4, .int .u64 (U64 y.n8), .int .u64 (U64 y.n9), .int .u64 (U64 y.n10), .int .u64 (U64 y.n11), .slice A5 y.is.length c5, .slice A6 y.bs.length c6])
  have P4 := hide ((P3.out.below hb4 P3.out.lt).alloc (.cells #[.int .i64 y.n0, .int .i64 y.n1, .int .i64 y.n2, .int .i64 y.n3, .int .i64 y.n4, .int .i64 y.n5, .int .i64 y.n6, .slice A4 y.vs.length c4, .int .u64 (U64 y.n8), .int .u64 (U64 y.n9), .int .u64 (U64 y.n10), .int .u64 (U64 y.n11), .slice A5 y.is.length c5, .slice A6 y.bs.length c6] 65))
  have B4 := hide ((B3.out.trans (hb4.mono B3.out.size)).alloc (by have := B3.out.size; omega) (.cells #[.int .i64 y.n0, .int .i64 y.n1, .int .i64 y.n2, .int .i64 y.n3, .int .i64 y.n4, .int .i64 y.n5, .int .i64 y.n6, .slice A4 y.vs.length c4, .int .u64 (U64 y.n8), .int .u64 (U64 y.n9), .int .u64 (U64 y.n10), .int .u64 (U64 y.n11), .slice A5 y.is.length c5, .slice A6 y.bs.length c6] 65))
  have SE4 := hide ((SE.out.below hb4).alloc (by omega) (.cells #[.int .i64 y.n0, .int .i64 y.n1, .int .i64 y.n2, .int .i64 y.n3, .int .i64 y.n4, .int .i64 y.n5, .int .i64 y.n6, .slice A4 y.vs.length c4, .int .u64 (U64 y.n8), .int .u64 (U64 y.n9), .int .u64 (U64 y.n10), .int .u64 (U64 y.n11), .slice A5 y.is.length c5, .slice A6 y.bs.length c6] 65))
  have SB4 := hide ((SB3.out.below hb4).alloc (by omega) (.cells #[.int .i64 y.n0, .int .i64 y.n1, .int .i64 y.n2, .int .i64 y.n3, .int .i64 y.n4, .int .i64 y.n5, .int .i64 y.n6, .slice A4 y.vs.length c4, .int .u64 (U64 y.n8), .int .u64 (U64 y.n9), .int .u64 (U64 y.n10), .int .u64 (U64 y.n11), .slice A5 y.is.length c5, .slice A6 y.bs.length c6] 65))
  have YD4 := hide (hYD.alloc (Nat.le_refl _) (.cells #[.int .i64 y.n0, .int .i64 y.n1, .int .i64 y.n2, .int .i64 y.n3, .int .i64 y.n4, .int .i64 y.n5, .int .i64 y.n6, .slice A4 y.vs.length c4, .int .u64 (U64 y.n8), .int .u64 (U64 y.n9), .int .u64 (U64 y.n10), .int .u64 (U64 y.n11), .slice A5 y.is.length c5, .slice A6 y.bs.length c6] 65))
  have YE4 := hide (hYE.alloc (Nat.le_refl _) (.cells #[.int .i64 y.n0, .int .i64 y.n1, .int .i64 y.n2, .int .i64 y.n3, .int .i64 y.n4, .int .i64 y.n5, .int .i64 y.n6, .slice A4 y.vs.length c4, .int .u64 (U64 y.n8), .int .u64 (U64 y.n9), .int .u64 (U64 y.n10), .int .u64 (U64 y.n11), .slice A5 y.is.length c5, .slice A6 y.bs.length c6] 65))
  have YF4 := hide (hYF.alloc (Nat.le_refl _) (.cells #[.int .i64 y.n0, .int .i64 y.n1, .int .i64 y.n2, .int .i64 y.n3, .int .i64 y.n4, .int .i64 y.n5, .int .i64 y.n6, .slice A4 y.vs.length c4, .int .u64 (U64 y.n8), .int .u64 (U64 y.n9), .int .u64 (U64 y.n10), .int .u64 (U64 y.n11), .slice A5 y.is.length c5, .slice A6 y.bs.length c6] 65))
  have hs5 : w4.heap.size < (w4.alloc (.cells #[.int .i64 y.n0, .int .i64 y.n1, .int .i64 y.n2, .int .i64 y.n3, .int .i64 y.n4, .int .i64 y.n5, .int .i64 y.n6, .slice A4 y.vs.length c4, .int .u64 (U64 y.n8), .int .u64 (U64 y.n9), .int .u64 (U64 y.n10), .int .u64 (U64 y.n11), .slice A5 y.is.length c5, .slice A6 y.bs.length c6] 65)).heap.size := by simp
  have YOK := hide hyok
  have HYX := hide hyx
  clear hYD hYE hYF hyok hsy hb4 hyx SE SB3 P3 B3 C34 HSAY
  unfold RepD.cells
  go_upto_region 6 with (fail)
  generalize (w4.alloc (.cells #[.int .i64 y.n0, .int .i64 y.n1, .int .i64 y.n2, .int .i64 y.n3, .int .i64 y.n4, .int .i64 y.n5, .int .i64 y.n6, .slice A4 y.vs.length c4, .int .u64 (U64 y.n8), .int .u64 (U64 y.n9), .int .u64 (U64 y.n10), .int .u64 (U64 y.n11), .slice A5 y.is.length c5, .slice A6 y.bs.length c6] 65)) = w5 at *
  have hw5 : w.heap.size ≤ w5.heap.size := B4.out.size
  have hxyd : decide (x.flat = y.flat) = true := by simpa using HYX.out.symm
  have C35 := hide (fun (w1 : World) (hb : Below w5.heap.size w5 w1) => rsamer_any (.agg (x.cells A1 c1 A2 c2 A3 c3)) (.agg (y.cells A4 c4 A5 c5 A6 c6)) x y w5.heap.size w1 ⟨A1, c1, A2, c2, A3, c3, rfl, ((HD.out.below B4.out).below (hb.mono (by omega))).more (by omega), ((HE.out.below B4.out).below (hb.mono (by omega))).more (by omega), ((HF.out.below B4.out).below (hb.mono (by omega))).more (by omega)⟩ ⟨A4, c4, A5, c5, A6, c6, rfl, (YD4.out.below (hb.mono (by omega))).more (by omega), (YE4.out.below (hb.mono (by omega))).more (by omega), (YF4.out.below (hb.mono (by omega))).more (by omega)⟩ HOK.out YOK.out hb.size (by omega) (by omega) (by omega) (by omega) (by omega) (by omega))
  unfold SameR at C35
  rw [hxyd] at C35
  have C19 := hide (fun (w1 : World) (hb : Below w5.heap.size w5 w1) => same_bytes Ab Ae M kb w3.heap.size M ke w3.heap.size l0 l0 w1 (SB4.out.below (hb.mono (by omega))) HB0.out (SE4.out.below (hb.mono (by omega))) HB0.out)
  unfold EqEnd at C19
  rw [show decide (l0 = l0) = true by simp] at C19
  have C12 := hide (fun (w1 : World) (_ : Below w5.heap.size w5 w1) => awake_any w1)
  unfold AwakeEnd at C12
  unfold RepD.cells at C35
  clear hxyd
  go_wp2_with (first | (refine wpList_load65g (by rfl) (.tmp 1) rfl w.heap.size 65 rfl P4.out ?_) | (refine wpList_load65g (by rfl) (.tmp 7) rfl w4.heap.size 65 rfl G4.out ?_) | (go_at_call 35; with_reducible refine (C35.out _ ?_).mono ?_; (· (repeat (first | with_reducible exact Below.refl _ _ | with_reducible exact hbP | with_reducible exact hbR | with_reducible refine Below.drew ?_ | with_reducible refine below_drewN ?_ _))); rintro e w9 ⟨rfl, hbp⟩; refine have_ (p := Below w5.heap.size w5 w9) ?_ ?_; (· refine Bl.call' ?_ hbp; (repeat (first | with_reducible exact Below.refl _ _ | with_reducible exact hbP | with_reducible exact hbR | with_reducible refine Below.drew ?_ | with_reducible refine below_drewN ?_ _))); intro hbP) | (go_at_call 19; refine (C19.out _ ?_).mono ?_; (· (repeat (first | with_reducible exact Below.refl _ _ | with_reducible exact hbP | with_reducible exact hbR | with_reducible refine Below.drew ?_ | with_reducible refine below_drewN ?_ _))); rintro e w10 ⟨rfl, rfl⟩) | (go_at_call 12; refine (C12.out _ ?_).mono ?_; (· (repeat (first | with_reducible exact Below.refl _ _ | with_reducible exact hbP | with_reducible exact hbR | with_reducible refine Below.drew ?_ | with_reducible refine below_drewN ?_ _))); rintro e w11 ⟨rfl, hbr⟩; refine have_ (p := Below w5.heap.size w5 w11) ?_ ?_; (· refine Bl.call' ?_ hbr; (repeat (first | with_reducible exact Below.refl _ _ | with_reducible exact hbP | with_reducible exact hbR | with_reducible refine Below.drew ?_ | with_reducible refine below_drewN ?_ _))); intro hbR))
  all_goals
    go_ret
    exact ⟨rfl, B4.out.trans (hbR.mono (by omega))⟩
set_option maxHeartbeats 2000000 in
theorem reps_big0 (x : RepD) (A1 : Option Addr) (c1 : Nat) (A2 : Option Addr) (c2 : Nat) (A3 : Option Addr) (c3 : Nat) (w : World) (h : ¬ x.vs.length ≤ 200) :
    Calls Try.prog 10 #[.agg (x.cells A1 c1 A2 c2 A3 c3)] w (FewR true w) := by
  have C12 := hide (fun (w1 : World) => awake_any w1)
  unfold AwakeEnd at C12
  have t0 : decide ((200 : Int) < (x.vs.length : Int)) = true := by simp; omega
  have qP : Blk (w.alloc (.cells #[.int .i64 x.n0, .int .i64 x.n1, .int .i64 x.n2, .int .i64 x.n3, .int .i64 x.n4, .int .i64 x.n5, .int .i64 x.n6, .slice A1 x.vs.length c1, .int .u64 (U64 x.n8), .int .u64 (U64 x.n9), .int .u64 (U64 x.n10), .int .u64 (U64 x.n11), .slice A2 x.is.length c2, .slice A3 x.bs.length c3] 65)) w.heap.size 65 #[.int .i64 x.n0, .int .i64 x.n1, .int .i64 x.n2, .int .i64 x.n3, .int .i64 x.n4, .int .i64 x.n5, .int .i64 x.n6, .slice A1 x.vs.length c1, .int .u64 (U64 x.n8), .int .u64 (U64 x.n9), .int .u64 (U64 x.n10), .int .u64 (U64 x.n11), .slice A2 x.is.length c2, .slice A3 x.bs.length c3] := Blk.new w 65 _
  have qB : Below w.heap.size w (w.alloc (.cells #[.int .i64 x.n0, .int .i64 x.n1, .int .i64 x.n2, .int .i64 x.n3, .int .i64 x.n4, .int .i64 x.n5, .int .i64 x.n6, .slice A1 x.vs.length c1, .int .u64 (U64 x.n8), .int .u64 (U64 x.n9), .int .u64 (U64 x.n10), .int .u64 (U64 x.n11), .slice A2 x.is.length c2, .slice A3 x.bs.length c3] 65)) := (Below.refl _ w).alloc (Nat.le_refl _) _
  unfold RepD.cells at *
  clear h
  go_enter Try.func10, Try.ntmps10
  go_upto_region 1 with (fail)
  generalize (w.alloc (.cells #[.int .i64 x.n0, .int .i64 x.n1, .int .i64 x.n2, .int .i64 x.n3, .int .i64 x.n4, .int .i64 x.n5, .int .i64 x.n6, .slice A1 x.vs.length c1, .int .u64 (U64 x.n8), .int .u64 (U64 x.n9), .int .u64 (U64 x.n10), .int .u64 (U64 x.n11), .slice A2 x.is.length c2, .slice A3 x.bs.length c3] 65)) = w0 at *
  have P0 := hide qP
  have B0 := hide qB
  clear qP qB
  have c7 := P0.out.cell 7
  have c12 := P0.out.cell 12
  have c13 := P0.out.cell 13
  go_wp2_with (go_at_call 12; refine (C12.out _).mono ?_; rintro e w2 ⟨rfl, hb2⟩)
  go_ret
  exact ⟨rfl, B0.out.trans (hb2.mono B0.out.size)⟩
set_option maxHeartbeats 2000000 in
theorem reps_big1 (x : RepD) (A1 : Option Addr) (c1 : Nat) (A2 : Option Addr) (c2 : Nat) (A3 : Option Addr) (c3 : Nat) (w : World) (h : x.vs.length ≤ 200 ∧ ¬ x.is.length ≤ 200) :
    Calls Try.prog 10 #[.agg (x.cells A1 c1 A2 c2 A3 c3)] w (FewR true w) := by
  have C12 := hide (fun (w1 : World) => awake_any w1)
  unfold AwakeEnd at C12
  have t0 : decide ((200 : Int) < (x.vs.length : Int)) = false := by simp; omega
  have t1 : decide ((200 : Int) < (x.is.length : Int)) = true := by simp; omega
  have qP : Blk (w.alloc (.cells #[.int .i64 x.n0, .int .i64 x.n1, .int .i64 x.n2, .int .i64 x.n3, .int .i64 x.n4, .int .i64 x.n5, .int .i64 x.n6, .slice A1 x.vs.length c1, .int .u64 (U64 x.n8), .int .u64 (U64 x.n9), .int .u64 (U64 x.n10), .int .u64 (U64 x.n11), .slice A2 x.is.length c2, .slice A3 x.bs.length c3] 65)) w.heap.size 65 #[.int .i64 x.n0, .int .i64 x.n1, .int .i64 x.n2, .int .i64 x.n3, .int .i64 x.n4, .int .i64 x.n5, .int .i64 x.n6, .slice A1 x.vs.length c1, .int .u64 (U64 x.n8), .int .u64 (U64 x.n9), .int .u64 (U64 x.n10), .int .u64 (U64 x.n11), .slice A2 x.is.length c2, .slice A3 x.bs.length c3] := Blk.new w 65 _
  have qB : Below w.heap.size w (w.alloc (.cells #[.int .i64 x.n0, .int .i64 x.n1, .int .i64 x.n2, .int .i64 x.n3, .int .i64 x.n4, .int .i64 x.n5, .int .i64 x.n6, .slice A1 x.vs.length c1, .int .u64 (U64 x.n8), .int .u64 (U64 x.n9), .int .u64 (U64 x.n10), .int .u64 (U64 x.n11), .slice A2 x.is.length c2, .slice A3 x.bs.length c3] 65)) := (Below.refl _ w).alloc (Nat.le_refl _) _
  unfold RepD.cells at *
  clear h
  go_enter Try.func10, Try.ntmps10
  go_upto_region 1 with (fail)
  generalize (w.alloc (.cells #[.int .i64 x.n0, .int .i64 x.n1, .int .i64 x.n2, .int .i64 x.n3, .int .i64 x.n4, .int .i64 x.n5, .int .i64 x.n6, .slice A1 x.vs.length c1, .int .u64 (U64 x.n8), .int .u64 (U64 x.n9), .int .u64 (U64 x.n10), .int .u64 (U64 x.n11), .slice A2 x.is.length c2, .slice A3 x.bs.length c3] 65)) = w0 at *
  have P0 := hide qP
  have B0 := hide qB
  clear qP qB
  have c7 := P0.out.cell 7
  have c12 := P0.out.cell 12
  have c13 := P0.out.cell 13
  go_wp2_with (go_at_call 12; refine (C12.out _).mono ?_; rintro e w2 ⟨rfl, hb2⟩)
  go_ret
  exact ⟨rfl, B0.out.trans (hb2.mono B0.out.size)⟩
set_option maxHeartbeats 2000000 in
theorem reps_big2 (x : RepD) (A1 : Option Addr) (c1 : Nat) (A2 : Option Addr) (c2 : Nat) (A3 : Option Addr) (c3 : Nat) (w : World) (h : x.vs.length ≤ 200 ∧ x.is.length ≤ 200 ∧ ¬ x.bs.length ≤ 500) :
    Calls Try.prog 10 #[.agg (x.cells A1 c1 A2 c2 A3 c3)] w (FewR true w) := by
  have C12 := hide (fun (w1 : World) => awake_any w1)
  unfold AwakeEnd at C12
  have t0 : decide ((200 : Int) < (x.vs.length : Int)) = false := by simp; omega
  have t1 : decide ((200 : Int) < (x.is.length : Int)) = false := by simp; omega
  have t2 : decide ((500 : Int) < (x.bs.length : Int)) = true := by simp; omega
  have qP : Blk (w.alloc (.cells #[.int .i64 x.n0, .int .i64 x.n1, .int .i64 x.n2, .int .i64 x.n3, .int .i64 x.n4, .int .i64 x.n5, .int .i64 x.n6, .slice A1 x.vs.length c1, .int .u64 (U64 x.n8), .int .u64 (U64 x.n9), .int .u64 (U64 x.n10), .int .u64 (U64 x.n11), .slice A2 x.is.length c2, .slice A3 x.bs.length c3] 65)) w.heap.size 65 #[.int .i64 x.n0, .int .i64 x.n1, .int .i64 x.n2, .int .i64 x.n3, .int .i64 x.n4, .int .i64 x.n5, .int .i64 x.n6, .slice A1 x.vs.length c1, .int .u64 (U64 x.n8), .int .u64 (U64 x.n9), .int .u64 (U64 x.n10), .int .u64 (U64 x.n11), .slice A2 x.is.length c2, .slice A3 x.bs.length c3] := Blk.new w 65 _
  have qB : Below w.heap.size w (w.alloc (.cells #[.int .i64 x.n0, .int .i64 x.n1, .int .i64 x.n2, .int .i64 x.n3, .int .i64 x.n4, .int .i64 x.n5, .int .i64 x.n6, .slice A1 x.vs.length c1, .int .u64 (U64 x.n8), .int .u64 (U64 x.n9), .int .u64 (U64 x.n10), .int .u64 (U64 x.n11), .slice A2 x.is.length c2, .slice A3 x.bs.length c3] 65)) := (Below.refl _ w).alloc (Nat.le_refl _) _
  unfold RepD.cells at *
  clear h
  go_enter Try.func10, Try.ntmps10
  go_upto_region 1 with (fail)
  generalize (w.alloc (.cells #[.int .i64 x.n0, .int .i64 x.n1, .int .i64 x.n2, .int .i64 x.n3, .int .i64 x.n4, .int .i64 x.n5, .int .i64 x.n6, .slice A1 x.vs.length c1, .int .u64 (U64 x.n8), .int .u64 (U64 x.n9), .int .u64 (U64 x.n10), .int .u64 (U64 x.n11), .slice A2 x.is.length c2, .slice A3 x.bs.length c3] 65)) = w0 at *
  have P0 := hide qP
  have B0 := hide qB
  clear qP qB
  have c7 := P0.out.cell 7
  have c12 := P0.out.cell 12
  have c13 := P0.out.cell 13
  go_wp2_with (go_at_call 12; refine (C12.out _).mono ?_; rintro e w2 ⟨rfl, hb2⟩)
  go_ret
  exact ⟨rfl, B0.out.trans (hb2.mono B0.out.size)⟩
theorem codecReplies_walk (v : Value) (x : RepD) (w : World) (hH : HoldsR w w.heap.size v x) (hok : x.Ok) :
    Calls Try.prog 10 #[v] w (FewR true w) := by
  obtain ⟨A1, c1, A2, c2, A3, c3, rfl, hD, hE, hF⟩ := hH
  by_cases h1 : x.vs.length ≤ 200
  · by_cases h2 : x.is.length ≤ 200
    · by_cases h3 : x.bs.length ≤ 500
      · exact reps_small x A1 c1 A2 c2 A3 c3 w hD hE hF hok h1 h2 h3
      · exact reps_big2 x A1 c1 A2 c2 A3 c3 w ⟨h1, h2, h3⟩
    · exact reps_big1 x A1 c1 A2 c2 A3 c3 w ⟨h1, h2⟩
  · exact reps_big0 x A1 c1 A2 c2 A3 c3 w h1
end Go.Proofs.Ytlcgpldngooekaa
