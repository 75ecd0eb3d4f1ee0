/- A list of numbers, or of bytes, read from a tape: the contract. -/
import Derived.Test.YtlcgpldngooekaaVB
import Derived.Test.YtlcgpldngooekaaVC
import Derived.StillTailTactics
import Derived.Deep.RegionLaw
namespace Go.Proofs.Ytlcgpldngooekaa
open Go.RowKit
set_option linter.unusedVariables false
theorem Blk.new_at {w : World} {g : Nat} (hg : w.heap.size = g) (t : TypeId) (cs : Array Value) : Blk (w.alloc (.cells cs t)) g t cs := by
  subst hg; exact Blk.new w t cs
theorem Blk.cellv {w : World} {g i : Nat} {t : TypeId} {cs : Array Value} {v : Value} (h : Blk w g t cs) (hv : cs[i]? = some v) : w.cell? ⟨g, i, none⟩ = some v := (h.cell i).trans hv
theorem TR.drew {l : List Int} {A : Option Addr} {n c tb a : Nat} {bad : Bool} {w : World} (h : TR l A n c w tb a bad) : TR l A n c w.drew tb a bad := ⟨h.1.drew, h.2⟩
theorem own_mono {base base' : Nat} {e : TypeId} {k : Nat} {v : Value} {n : Nat} {xs : List Value} {w : World} (h : w.ownsRow base e k v n xs) (hb : base' ≤ base) : w.ownsRow base' e k v n xs := by
  refine ⟨h.1, ?_⟩
  rcases h.2 with hn | ⟨g, cap, cur, hv, hbg, rest⟩
  · exact .inl hn
  · exact .inr ⟨g, cap, cur, hv, Nat.le_trans hb hbg, rest⟩
theorem Keep.owns {tb g : Nat} {a b : World} (x : Keep tb g a b) {base : Nat} {e : TypeId} {k : Nat} {v : Value} {n : Nat} {xs : List Value} (h : a.ownsRow base e k v n xs) (h1 : ∀ q, v.ownBlock = some q → q ≠ tb ∧ q ≠ g) : b.ownsRow base e k v n xs := by
  refine ⟨h.1, ?_⟩
  rcases h.2 with hn | ⟨q, cap, cur, hv, hbg, hgg, rest⟩
  · exact .inl hn
  · have hq := h1 q (by rw [hv]; rfl)
    exact .inr ⟨q, cap, cur, hv, hbg, (x.block q (Array.getElem?_eq_some_iff.1 hgg).1 hq.1 hq.2).trans hgg, rest⟩
theorem list_fin {P : Int → Prop} {l : List Int} {n a a1 a' i : Nat} {bad b1 b2 bad' : Bool} {m : Int} {acc : List Int} (hl : l.length = n) (hb : Bytes l) (ha : a ≤ l.length) (hst : StepI l a bad m a1 b1)
    (hc : (0 ≤ m ∧ m ≤ (n : Int) - a) ∧ b2 = b1 ∨ ¬ (0 ≤ m ∧ m ≤ (n : Int) - a) ∧ b2 = true) (hgo : Going P (leftV l a1 b2) m.toNat i acc (leftV l a' bad')) (him : i = 0 ∧ bad' = b2 ∨ 0 ≤ m ∧ m ≤ (n : Int) - a)
    (hend : m - (i : Int) ≤ 0 ∨ bad' = true) : TookL P (leftV l a bad) (leftV l a' bad') acc ∧ i ≤ n := by
  have hi := hgo.2.1
  refine ⟨TookL.mk (s1 := leftV l a1 b1) (s2 := leftV l a1 b2) hst.took (fun _ => hgo) ?_ ?_ ?_, by omega⟩
  · rcases hend with h | h
    · by_cases hm : 0 ≤ m
      · exact .inl ⟨hm, by omega⟩
      · right
        rcases him with ⟨_, h2⟩ | h2
        · rcases hc with h3 | h3
          · omega
          · rw [h2, h3.2]; rfl
        · omega
    · right; rw [h]; rfl
  · intro R hR
    rcases hc with h3 | h3
    · rw [← h3.2]; exact hR
    · rw [h3.2] at hR; cases hR
  · intro es R h1 h2
    have h0 := hst.2.1 _ h1
    have := (left_len hb ha h0).1
    rcases hc with h3 | h3
    · rw [h3.2]; exact h1
    · exact absurd ⟨by omega, by simp at this; omega⟩ h3.1
theorem him_step {i n a : Nat} {m : Int} {b1 b2 : Bool} (him : i = 0 ∧ false = b2 ∨ 0 ≤ m ∧ m ≤ (n : Int) - a) (hc : (0 ≤ m ∧ m ≤ (n : Int) - a) ∧ b2 = b1 ∨ ¬ (0 ≤ m ∧ m ≤ (n : Int) - a) ∧ b2 = true) : 0 ≤ m ∧ m ≤ (n : Int) - a := by
  rcases him with ⟨h1, h2⟩ | h
  · rcases hc with h3 | h3
    · exact h3.1
    · rw [h3.2] at h2; cases h2
  · exact h
theorem Sl.one_h {w : World} {g : Nat} (hg : w.heap.size = g) (u : Value) (t : TypeId) : Sl (w.alloc (.cells #[u] t)) (w.alloc (.cells #[u] t)).heap.size (some ⟨g, 0, none⟩) 1 [u] := by
  subst hg; exact (Sl.one _ _ _).more (by simp)
theorem Sl.drew_h {w : World} {n : Nat} {A : Option Addr} {xs : List Value} (h : Sl w w.heap.size A n xs) : Sl w.drew w.drew.heap.size A n xs := h
theorem have_ {p q : Prop} (h : p) (k : p → q) : q := k h
theorem step_app1 {P : Program} {w : World} {ops : Array Oper} {o : Oper} {a : Act} {K : Act → World → Prop} {Q : Exit → Act → World → Prop} {E : Prop} (_ : True) (hgd : o.guard = none) (s x : Operand) (t : TypeId)
    (ho : o.op = .call { callee := .builtin .append, args := #[s, x], argTypes := #[t, t] })
    (base : Nat) (e : TypeId) (i : TypeInfo) (z : Value) (bytes : Nat) (ht : P.underlying t = some (.slice e)) (hi : P.info? e = some i) (hz : i.zero = some z)
    (hsize : i.size = 1) (hby : i.bytes = bytes) (hzs : z.cells.size = 1)
    (v : Value) (n : Nat) (xs : List Value) (hs : a.eval s = v) (hown : w.ownsRow base e 1 v n xs)
    (A : Option Addr) (m c : Nat) (news : List Value) (hx : a.eval x = .slice A m c) (hr : Sl w w.heap.size A m news) (h1 : ∀ u ∈ news, u.oneCell' = true)
    (q : Nat) (hq : n + m = q) (h63 : q ≤ maxLen) (hbytes : q * bytes ≤ 140737488355328) (hbase : base ≤ w.heap.size)
    (h : ∀ A' c' w', w'.ownsRow base e 1 (.slice A' q c') q (xs ++ news) → w.grownBy w' v.ownBlock → K (a.put o.dst (.slice A' q c')) w') :
    if Region.wanted o (yielded ops a.tmps) = true then Oper.wp P o a w K Q else E := by
  subst hq
  have hw : Region.wanted o (yielded ops a.tmps) = true := by simp [Region.wanted, hgd]
  rw [if_pos hw]
  obtain ⟨v', w', hrun, h2, h3, h4⟩ := run_append_sl (P := P) w base t o.type e i z bytes ht hi hz hsize hby hzs v n xs hown w.heap.size A m c news hr h1 h63 hbytes hbase
  obtain ⟨A', c', rfl, _, _⟩ := own_slice h2
  unfold Oper.wp execOp
  simp only [ho, resolve, invoke, builtin, Sem.run_bind, Sem.run_pure, Result.andThen_ok, List.map_toArray, List.map_cons, List.map_nil, hs, hx, hrun]
  exact h A' c' w' h2 h3
theorem own_nil {w : World} {base : Nat} {e : TypeId} : w.ownsRow base e 1 (.slice none 0 0) 0 [] := ⟨rfl, .inl ⟨rfl, rfl⟩⟩
theorem wb_keep {w w' : World} {g : Nat} {t : TypeId} {cs : Array Value} {row : Option Nat} (h : Blk w g t cs) (hb : w.grownBy w' row) (hg : ∀ q, row = some q → q ≠ g) : Blk w' g t cs := h.grown hb (fun e => hg g e.symm rfl)
theorem own_far1 {w : World} {base e k n : Nat} {v : Value} {xs : List Value} (h : w.ownsRow base e k v n xs) {p : Addr} (hp : ∀ g, v.ownBlock = some g → g ≠ p.block) (u : Value) : (w.setCell p u).ownsRow base e k v n xs := by
  refine ⟨h.1, ?_⟩
  rcases h.2 with hn | ⟨q, cap, cur, hv, hbg, hgg, rest⟩
  · exact .inl hn
  · exact .inr ⟨q, cap, cur, hv, hbg, (Below.heap_setCell w p u q (hp q (by rw [hv]; rfl))).trans hgg, rest⟩
/-- a list was read into cell o of block g -/
def ListI (l : List Int) (A : Option Addr) (n c tb a : Nat) (bad : Bool) (g o : Nat) (tg : TypeId) (cs : Array Value) (w : World) (e : Ending) (w' : World) : Prop :=
  e = .returned (.tuple #[]) ∧ ∃ (A' : Option Addr) (c' : Nat) (ds : List Int) (a' : Nat) (bad' : Bool), TookL Any (leftV l a bad) (leftV l a' bad') ds ∧ (∀ d ∈ ds, Fit d) ∧ ds.length ≤ n ∧ TR l A n c w' tb a' bad' ∧ Blk w' g tg (cs.setIfInBounds o (.slice A' ds.length c')) ∧
    w'.ownsRow w.heap.size 2 1 (.slice A' ds.length c') ds.length (ds.map (Value.int .i64)) ∧ Keep tb g w w'
theorem infoListI : (Try.prog.info? 2).map (fun i => (i.zero, i.size, i.bytes)) = some (some (.int .i64 0), 1, 8) := by kernel_rfl
set_option maxRecDepth 100000 in
set_option maxHeartbeats 2000000 in
theorem listI_rd {l : List Int} {A A0 : Option Addr} {n c B tb a k0 c0 : Nat} {bad : Bool} {w : World} {g o : Nat} {tg : TypeId} {cs : Array Value} (hT : TR l A n c w tb a bad) (hS : Sl w B A n (l.map (Value.int .u8))) (hBt : B ≤ tb) (hBg : B ≤ g) (hb : Bytes l) (hn : n ≤ 1000000000)
    (hG : Blk w g tg cs) (hx : cs[o]? = some (.slice A0 k0 c0)) (hk0 : k0 ≤ 1000000000) (hne : g ≠ tb) :
    Calls Try.prog 64 #[.pointer (some ⟨tb, 0, none⟩), .pointer (some ⟨g, o, none⟩), (.func (.func 57) #[.pointer (some ⟨tb, 0, none⟩)] #[])] w (ListI l A n c tb a bad g o tg cs w) := by
  obtain ⟨i0, hi0, hz0, hz1, hz2⟩ := info_parts infoListI
  have hl := hS.len
  have ho : o < cs.size := (Array.getElem?_eq_some_iff.1 hx).1
  have hglt := hG.lt
  have htlt := hT.1.lt
  have hale : a ≤ n := by have := hT.2; omega
  have hT0 : a ≤ l.length := hT.2
  have hk0a : (k0 : Int) ≤ 1000000000 := by omega
  have g0 : w.cell? ⟨g, o, none⟩ = some (.slice A0 k0 c0) := (hG.cell o).trans hx
  have C67 := hide (fun (w0 : World) (t : TR l A n c w0 tb a bad) (s : Sl w0 B A n (l.map (Value.int .u8))) (x : Blk w0 w.heap.size 2 #[.int .i64 k0]) => within_rd (x := (k0 : Int)) 0 ((n : Int) - a) t s hb (by omega) x (o := 0) rfl ⟨by omega, by omega⟩ (by omega))
  have T1 := hide (hT.alloc (.cells #[.int .i64 k0] 2))
  have S1 := hide (hS.alloc (by omega) (.cells #[.int .i64 k0] 2))
  have N1 := hide (Blk.new w 2 #[.int .i64 k0])
  have G1 := hide (hG.alloc (.cells #[.int .i64 k0] 2))
  have K1 := hide ((Keep.refl tb g w).alloc (.cells #[.int .i64 k0] 2))
  have hale2 := hide hT0
  have HX := hide hx
  have HB := hide hb
  have HL := hide hl
  clear hT0 hT hS hG hx hb hl
  unfold WithinR at C67
  go_enter Try.func64, Try.ntmps64
  go_upto_region 1 with (fail)
  generalize (w.alloc (.cells #[.int .i64 k0] 2)) = w1 at *
  have t0 : w1.cell? ⟨tb, 0, none⟩ = some (.slice A n c) := T1.out.1.cell 0
  have t1 : w1.cell? ⟨tb, 1, none⟩ = some (.int .i64 a) := T1.out.1.cell 1
  have hsub : (0 : Int) ≤ (n : Int) - (a : Int) ∧ (n : Int) - (a : Int) ≤ 1000000000 := by omega
  go_still_tail 11, (by kernel_rfl)
  change wpList _ _ _ _ _ w1.drew
  have T1d := hide T1.out.drew
  have S1d := hide S1.out.drew
  have N1d := hide N1.out.drew
  have KD := hide ((Keep.refl tb w.heap.size w1).drew)
  generalize w1.drew = wd at *
  go_upto_region 2 with (go_at_call 67; refine (C67.out _ ?_ ?_ ?_).mono ?_; (· exact T1d.out); (· exact S1d.out); (· exact N1d.out); rintro e w2 ⟨rfl, m, a1, b1, b2, hfm, hst, hcase, hT2, hN2, hK2⟩)
  have hwr0 : IntKind.i64.wrap ((n : Int) - (a : Int)) = (n : Int) - (a : Int) := by
    rw [show IntKind.i64.wrap ((n : Int) - (a : Int)) = wrap64 ((n : Int) - (a : Int)) from IntWalk.i64_left _]
    exact IntWalk.wrap64_in _ ⟨by omega, by omega⟩
  simp only [hwr0]
  clear hwr0
  have hK2' : Keep tb w.heap.size w1 w2 := KD.out.trans hK2
  have S2 := hide (hK2'.sl S1.out (by omega) (by omega) (by have := K1.out.size; omega))
  have G2 := hide (hK2'.blk G1.out hne (by omega))
  have K2 := hide (K1.out.own hK2' (Nat.le_refl _))
  have T2 := hide hT2
  have N2 := hide (show Blk w2 w.heap.size 2 #[.int .i64 m] by simpa using hN2)
  have HST := hide hst
  have HC := hide hcase
  have HFM := hide hfm
  have hw2 : w.heap.size < w2.heap.size := hN2.lt
  clear hst hcase hfm hT2 hN2 hK2 hK2' t0 t1
  clear T1 S1 N1 G1 K1 C67
  have t2 : w2.cell? ⟨tb, 2, none⟩ = some (.bool true) := T2.out.1.cell 2
  have g1 : w2.cell? ⟨g, o, none⟩ = some (.slice A0 k0 c0) := G2.out.cellv HX.out
  have gf := G2.out.frozen o
  go_wp2
  clear g0 g1 gf t2
  have G3 := hide (G2.out.set_ o (.slice none 0 0))
  have T3 := hide (T2.out.far (p := ⟨g, o, none⟩) (Ne.symm hne) (.slice none 0 0))
  have N3 := hide (N2.out.far (p := ⟨g, o, none⟩) (by simp; omega) (.slice none 0 0))
  have S3 := hide (S2.out.below ((Below.refl B w2).setCell (p := ⟨g, o, none⟩) hBg (.slice none 0 0)))
  have K3 := hide (K2.out.set_g o (.slice none 0 0))
  have hw3 : w.heap.size < (w2.setCell ⟨g, o, none⟩ (.slice none 0 0)).heap.size := by simpa using hw2
  generalize (w2.setCell ⟨g, o, none⟩ (.slice none 0 0)) = w3 at *
  clear G2 T2 N2 S2 K2
  go_loopw [9] (fun xv wr => ∃ (a' : Nat) (bad' : Bool) (i : Nat) (acc : List Int) (A1 : Option Addr) (c1 : Nat), Going Any (leftV l a1 b2) m.toNat i acc (leftV l a' bad') ∧ (i = 0 ∧ bad' = b2 ∨ 0 ≤ m ∧ m ≤ (n : Int) - a) ∧ (∀ d ∈ acc, Fit d) ∧ TR l A n c wr tb a' bad' ∧ Blk wr w.heap.size 2 #[.int .i64 (m - i)] ∧ Blk wr g tg (cs.setIfInBounds o (.slice A1 i c1)) ∧ wr.ownsRow (w.heap.size + 1) 2 1 (.slice A1 i c1) i (acc.map (Value.int .i64)) ∧ Keep tb g w wr ∧ Sl wr B A n (l.map (Value.int .u8)) ∧ w.heap.size < wr.heap.size) (fun _ wr => (intOf ((wr.cell? ⟨w.heap.size, 0, none⟩).getD (.int .i64 0))).toNat)
  case atStart => exact ⟨a1, b2, 0, [], none, 0, Going.start _ _, .inl ⟨rfl, rfl⟩, by simp, T3.out, by simpa using N3.out, G3.out, own_nil, K3.out, S3.out, hw3⟩
  case round =>
    obtain ⟨a', bad', i, acc, A1, c1, hgo, him, hfa, hT, hN, hG, hO, hK, hS, hw⟩ := hrel
    clear T3 N3 G3 K3 S3
    have hai := hgo.1
    have HGO := hide hgo
    have HIM := hide him
    have HFA := hide hfa
    have HAI := hide hai
    have hin : i ≤ m.toNat := hgo.2.1
    clear hgo him hfa hai
    have n0 : wr.cell? ⟨w.heap.size, 0, none⟩ = some (.int .i64 (m - i)) := hN.cell 0
    have t3 : wr.cell? ⟨tb, 3, none⟩ = some (.bool bad') := hT.1.cell 3
    by_cases hrem : 0 < m - (i : Int)
    rotate_left
    · have d1 : decide (0 < m - (i : Int)) = false := by simp; omega
      have hfin := list_fin HL.out HB.out hale2.out HST.out HC.out HGO.out HIM.out (.inl (by omega))
      have HF := hide hfin
      have HT := hide hT
      have HG := hide hG
      have HO := hide hO
      have HK := hide hK
      have hle : m - (i : Int) ≤ 0 := by omega
      clear hT hG hO hK hS hfin hrem
      go_wp2
      all_goals
       go_end0
       exact ⟨rfl, A1, c1, acc, a', bad', HF.out.1, HFA.out, by have := HF.out.2; have := HAI.out; omega, HT.out, by rw [HAI.out]; exact HG.out, by rw [HAI.out]; exact own_mono HO.out (by omega), HK.out⟩
    have d1 : decide (0 < m - (i : Int)) = true := by simpa using hrem
    cases bad' with
    | true =>
      have hfin := list_fin HL.out HB.out hale2.out HST.out HC.out HGO.out HIM.out (.inr rfl)
      have HF := hide hfin
      have HT := hide hT
      have HG := hide hG
      have HO := hide hO
      have HK := hide hK
      clear hT hG hO hK hS hfin
      go_wp2
      all_goals
       go_end0
       exact ⟨rfl, A1, c1, acc, a', true, HF.out.1, HFA.out, by have := HF.out.2; have := HAI.out; omega, HT.out, by rw [HAI.out]; exact HG.out, by rw [HAI.out]; exact own_mono HO.out (by omega), HK.out⟩
    | false =>
      have hwr : wr.heap.size ≠ tb ∧ wr.heap.size ≠ g ∧ wr.heap.size ≠ w.heap.size := by omega
      have hqo : ∀ q, (Value.slice A1 i c1).ownBlock = some q → w.heap.size + 1 ≤ q ∧ q < wr.heap.size := fun q hq => hO.lt q hq
      have C57 := hide (int_rd (x := 0) (hT.alloc (.cells #[.int .i64 0] 2)) (hS.alloc (by omega) (.cells #[.int .i64 0] 2)) HB.out (by omega) (Blk.new wr 2 #[.int .i64 0]) (o := 0) rfl ⟨by omega, by omega⟩ (by omega))
      unfold IntR at C57
      have N3 := hide (hN.alloc (.cells #[.int .i64 0] 2))
      have G3 := hide (hG.alloc (.cells #[.int .i64 0] 2))
      have O3 := hide (World.ownsRow.alloc hO (.cells #[.int .i64 0] 2))
      have K3 := hide (hK.alloc (.cells #[.int .i64 0] 2))
      have S3 := hide (hS.alloc (by omega) (.cells #[.int .i64 0] 2))
      clear hT hN hG hO hK hS
      go_upto_region 14 with (go_at_call 57; refine C57.out.mono ?_; rintro e w4 ⟨rfl, y, a2, bad2, hfy, hst4, hT4, hX4, hK4⟩)
      have T4 := hide hT4
      have T4b := hide (show Blk w4 tb 78 #[.slice A n c, .int .i64 a2, .bool true, .bool bad2] from T4.out.1)
      have X4 := hide (show Blk w4 wr.heap.size 2 #[.int .i64 y] by simpa using hX4)
      have N4 := hide (hK4.blk N3.out (by omega) (by omega))
      have G4 := hide (hK4.blk G3.out hne (by omega))
      have O4 := hide (hK4.owns O3.out (fun q hq => by have := hqo q hq; omega))
      have K4 := hide (K3.out.own hK4 (by omega))
      have S4 := hide (hK4.sl S3.out (by omega) (by omega) (by simp; omega))
      have hw4 : wr.heap.size < w4.heap.size := hX4.lt
      have HG4 := hide (HGO.out.step (by omega) hst4.took)
      have HFY := hide hfy
      have HIM4 := hide (him_step HIM.out HC.out)
      clear hfy hst4
      have n0m := n0
      clear hT4 hX4 hK4 n0 t3 d1 N3 G3 O3 K3 S3
      have g0 : w4.cell? ⟨g, o, none⟩ = some (.slice A1 i c1) := G4.out.cellv (by simp [ho])
      have x0 : w4.cell? ⟨wr.heap.size, 0, none⟩ = some (.int .i64 y) := X4.out.cell 0
      have gf := G4.out.frozen o
      have hib : i ≤ 1000000000 := by rcases HIM.out with h | h <;> omega
      have g0a : (w4.alloc (.cells #[.int .i64 y] 2)).cell? ⟨g, o, none⟩ = some (.slice A1 i c1) := (G4.out.alloc _).cellv (by simp [ho])
      have x0a : (w4.alloc (.cells #[.int .i64 y] 2)).cell? ⟨wr.heap.size, 0, none⟩ = some (.int .i64 y) := (X4.out.alloc _).cell 0
      go_region_law (first | (refine step_app1 (o := ⟨some 68, _, _, _, _, _⟩) trivial (by rfl) (.tmp 65) (.tmp 67) 33 (by rfl) (w.heap.size + 1) 2 i0 (.int .i64 0) 8 Try.underlying33 hi0 hz0 hz1 hz2 rfl (.slice A1 i c1) i (acc.map (Value.int .i64)) (by rfl) ?_ (some ⟨_, 0, none⟩) 1 1 [.int .i64 y] (by rfl) ?_ ?_ (i + 1) ?_ ?_ ?_ ?_ ?_; (· repeat (first | with_reducible exact O4.out | with_reducible refine World.ownsRow.drew ?_ | with_reducible refine World.ownsRow.alloc ?_ _)); (· repeat (first | ((with_reducible refine Sl.one_h ?_ _ _); simp; done) | with_reducible refine Sl.drew_h ?_)); (· intro u hu; simp at hu; subst hu; rfl); (· rfl); (· simp only [maxLen]; omega); (· omega); (· simp; omega); intro A2 c2 w6 hown6 hg6; refine have_ (p := Blk w6 g tg (cs.setIfInBounds o (.slice A1 i c1))) ?_ ?_; (· refine wb_keep ?_ hg6 ?_; (· repeat (first | with_reducible exact G4.out | with_reducible refine Blk.drew ?_ | with_reducible refine Blk.alloc ?_ _)); (· intro q hq; have := hqo q hq; omega)); intro G6; refine have_ (p := TR l A n c w6 tb a2 bad2) ?_ ?_; (· refine ⟨wb_keep ?_ hg6 ?_, T4.out.2⟩; (· repeat (first | with_reducible exact T4b.out | with_reducible refine Blk.drew ?_ | with_reducible refine Blk.alloc ?_ _)); (· intro q hq; have := hqo q hq; omega)); intro T6; refine have_ (p := Blk w6 w.heap.size 2 #[.int .i64 (m - i)]) ?_ ?_; (· refine wb_keep ?_ hg6 ?_; (· repeat (first | with_reducible exact N4.out | with_reducible refine Blk.drew ?_ | with_reducible refine Blk.alloc ?_ _)); (· intro q hq; have := hqo q hq; omega)); intro N6; refine have_ (p := Keep tb g w w6) ?_ ?_; (· refine Keep.grown ?_ hg6 ?_; (· repeat (first | with_reducible exact K4.out | with_reducible refine Keep.drew ?_ | with_reducible refine Keep.alloc ?_ _)); (· intro q hq; have := hqo q hq; omega)); intro K6; refine have_ (p := Sl w6 B A n (l.map (Value.int .u8))) ?_ ?_; (· refine Sl.below S4.out (Below.grown (row := (Value.slice A1 i c1).ownBlock) ?_ hg6 ?_ ?_); (· repeat (first | with_reducible exact Below.refl _ _ | with_reducible refine Below.drew ?_ | (with_reducible refine Below.alloc ?_ ?_ _; rotate_left; (· first | omega | (simp; omega))))); (· simp; omega); (· intro q hq; have := hqo q hq; omega)); intro S6; refine have_ (p := wr.heap.size < w6.heap.size) ?_ ?_; (· have := hg6.size; simp at this; omega); intro hw6; have g6 : w6.cell? ⟨g, o, none⟩ = some (.slice A1 i c1) := G6.cellv (by simp [ho]); have f6 := G6.frozen o))
      all_goals
       have q6 : ∀ q, (Value.slice A2 (i + 1) c2).ownBlock = some q → q ≠ g := (fun q hq => by have := (World.ownsRow.lt hown6 q hq).1; omega)
       have N7 := hide (N6.far (p := ⟨g, o, none⟩) (by simp; omega) (.slice A2 (i + 1) c2))
       have G7 := hide (show Blk (w6.setCell ⟨g, o, none⟩ (.slice A2 (i + 1) c2)) g tg (cs.setIfInBounds o (.slice A2 (i + 1) c2)) by simpa using G6.set_ o (.slice A2 (i + 1) c2))
       have T7 := hide (T6.far (p := ⟨g, o, none⟩) (Ne.symm hne) (.slice A2 (i + 1) c2))
       have O7 := hide (own_far1 hown6 (p := ⟨g, o, none⟩) q6 (.slice A2 (i + 1) c2))
       have K7 := hide (K6.set_g o (.slice A2 (i + 1) c2))
       have S7 := hide (S6.below ((Below.refl B w6).setCell (p := ⟨g, o, none⟩) hBg (.slice A2 (i + 1) c2)))
       have hw7 : wr.heap.size < (w6.setCell ⟨g, o, none⟩ (.slice A2 (i + 1) c2)).heap.size := by simpa using hw6
       clear N6 G6 T6 hown6 K6 S6 hg6 g6 f6 q6 hw6
       generalize (w6.setCell ⟨g, o, none⟩ (.slice A2 (i + 1) c2)) = w7 at *
       have n7 : w7.cell? ⟨w.heap.size, 0, none⟩ = some (.int .i64 (m - i)) := N7.out.cell 0
       have nf := N7.out.frozen 0
       have hmb : m ≤ 1000000000 := by have := HIM4.out; omega
       have n8 : (w7.setCell ⟨w.heap.size, 0, none⟩ (.int .i64 (m - (i : Int) - 1))).cell? ⟨w.heap.size, 0, none⟩ = some (.int .i64 (m - (i : Int) - 1)) := (N7.out.set_ 0 _).cell 0
       go_wp2
       go_roundw
       case rel =>
        exact ⟨a2, bad2, i + 1, acc ++ [y], A2, c2, HG4.out, .inr HIM4.out, (by intro d hd; rcases List.mem_append.1 hd with hd | hd; (· exact HFA.out d hd); (· obtain rfl : d = y := (by simpa using hd); exact HFY.out)), T7.out.far (by simp; omega) _, by have := N7.out.set_ 0 (.int .i64 (m - ((i + 1 : Nat) : Int))); simpa [show m - (i : Int) - 1 = m - ((i + 1 : Nat) : Int) by omega] using this, G7.out.far (by simp; omega) _, by simpa using own_far1 O7.out (p := ⟨w.heap.size, 0, none⟩) (fun q hq => by have := (World.ownsRow.lt O7.out q hq).1; simp; omega) (.int .i64 (m - (i : Int) - 1)), K7.out.set_own (Nat.le_refl _) 0 _, S7.out.below ((Below.refl B w7).setCell (p := ⟨w.heap.size, 0, none⟩) (by simp; omega) _), by simp; omega⟩
       case measure => simp [n0m, n8, intOf]; omega
end Go.Proofs.Ytlcgpldngooekaa
