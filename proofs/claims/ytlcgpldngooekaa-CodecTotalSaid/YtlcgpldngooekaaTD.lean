/- A command decoded: the contract. -/
import Derived.Test.YtlcgpldngooekaaVE
import Derived.RegionTactic
import Derived.ChangeAlike
import Derived.BigRegion
import Derived.Laws.Tables
namespace Go.Proofs.Ytlcgpldngooekaa
open Go.RowKit
set_option linter.unusedVariables false
theorem size45 : (Try.prog.info? 45).map (·.size) = some 17 := by kernel_rfl
theorem load45 {w : World} {g : Nat} {t : TypeId} {u0 u1 u2 u3 u4 u5 u6 u7 u8 u9 u10 u11 u12 u13 u14 u15 u16 : Value} (h : Blk w g t #[u0, u1, u2, u3, u4, u5, u6, u7, u8, u9, u10, u11, u12, u13, u14, u15, u16]) : (loadVar 45 ⟨g, 0, none⟩).run Try.prog w = .ok (.agg #[u0, u1, u2, u3, u4, u5, u6, u7, u8, u9, u10, u11, u12, u13, u14, u15, u16]) w :=
  run_loadVar_row w g t 45 _ (0, 0) _ h Try.underlying45 rfl size45
theorem res45 {fn : Func} {p u : Tmp} (h : fn.results = #[.cell p 45, .tmp u]) (tmps : Array Value) {w : World} {g : Nat} {t : TypeId} {u0 u1 u2 u3 u4 u5 u6 u7 u8 u9 u10 u11 u12 u13 u14 u15 u16 : Value} (hp : tmps.getD p undef = .pointer (some ⟨g, 0, none⟩)) (hg : Blk w g t #[u0, u1, u2, u3, u4, u5, u6, u7, u8, u9, u10, u11, u12, u13, u14, u15, u16]) :
    (results fn tmps).run Try.prog w = .ok (.tuple #[.agg #[u0, u1, u2, u3, u4, u5, u6, u7, u8, u9, u10, u11, u12, u13, u14, u15, u16], tmps.getD u undef]) w := by
  have hp' : tmps[p]?.getD undef = .pointer (some ⟨g, 0, none⟩) := by simpa using hp
  simp [results, h, hp', asAddr, load45 hg]
theorem Blk.row {w : World} {g : Nat} {t : TypeId} {old : Array Value} (h : Blk w g t old) (cs : Array Value) : Blk (w.setRow g cs) g t cs := setRow_heap w g old cs t (0, 0) h
theorem below_row {w0 w : World} {B g : Nat} (h : Below B w0 w) (hg : B ≤ g) (cs : Array Value) : Below B w0 (w.setRow g cs) :=
  h.trans ⟨rfl, rfl, rfl, by simp [World.setRow], fun k hk => setRow_other w g k cs (by omega)⟩
theorem own_row {w : World} {base e k n g : Nat} {v : Value} {xs : List Value} (h : w.ownsRow base e k v n xs) (hp : ∀ q, v.ownBlock = some q → q ≠ g) (cs : Array Value) : (w.setRow g cs).ownsRow base e k v n xs := by
  refine ⟨h.1, ?_⟩
  rcases h.2 with hn | ⟨q, cap, cur, hv, hbg, hgg, rest⟩
  · exact .inl hn
  · exact .inr ⟨q, cap, cur, hv, hbg, (setRow_other w g q cs (hp q (by rw [hv]; rfl))).trans hgg, rest⟩
theorem wp_load45 {o : Oper} {a : Act} {w : World} {K : Act → World → Prop} {Q : Exit → Act → World → Prop} (x : Operand) (ho : o.op = .load 45 x) (g : Nat) (t : TypeId) {u0 u1 u2 u3 u4 u5 u6 u7 u8 u9 u10 u11 u12 u13 u14 u15 u16 : Value} (hx : a.eval x = .pointer (some ⟨g, 0, none⟩)) (hB : Blk w g t #[u0, u1, u2, u3, u4, u5, u6, u7, u8, u9, u10, u11, u12, u13, u14, u15, u16]) (h : K (a.put o.dst (.agg #[u0, u1, u2, u3, u4, u5, u6, u7, u8, u9, u10, u11, u12, u13, u14, u15, u16])) w) : o.wp Try.prog a w K Q := by
  unfold Oper.wp execOp
  simp only [ho, hx, Instr.loadAt, Instr.sureAddr, Sem.run_bind, Sem.run_pure, Result.andThen_ok, load45 hB]
  exact h
theorem built45 : Try.prog.built 45 [] = some #[.int .i64 0, .int .i64 0, .int .i64 0, .int .i64 0, .int .i64 0, .int .i64 0, .int .i64 0, .int .i64 0, .int .i64 0, .int .i64 0, .int .i64 0, .int .i64 0, .slice none 0 0, .int .i64 0, .int .i64 0, .int .i64 0, .slice none 0 0] := by kernel_rfl
set_option maxRecDepth 100000 in
theorem wpList_build45 {ops : Array Oper} {rest : List Oper} {o : Oper} {a : Act} {w : World} {Q : Exit → Act → World → Prop} (hg : o.guard = none) (ho : o.op = .build 45 #[]) (h : wpList Try.prog ops Q rest (a.put o.dst (.agg #[.int .i64 0, .int .i64 0, .int .i64 0, .int .i64 0, .int .i64 0, .int .i64 0, .int .i64 0, .int .i64 0, .int .i64 0, .int .i64 0, .int .i64 0, .int .i64 0, .slice none 0 0, .int .i64 0, .int .i64 0, .int .i64 0, .slice none 0 0])) w) : wpList Try.prog ops Q (o :: rest) a w := by
  have hb : Try.prog.built 45 ((#[] : Array (Nat × Operand)).map fun (i, x) => (i, a.eval x)).toList = some #[.int .i64 0, .int .i64 0, .int .i64 0, .int .i64 0, .int .i64 0, .int .i64 0, .int .i64 0, .int .i64 0, .int .i64 0, .int .i64 0, .int .i64 0, .int .i64 0, .slice none 0 0, .int .i64 0, .int .i64 0, .int .i64 0, .slice none 0 0] := by
    have e : ((#[] : Array (Nat × Operand)).map fun (i, x) => (i, a.eval x)).toList = [] := by simp
    rw [e]; exact built45
  exact wpList_build hg 45 #[] ho (by rw [hb]; rfl) (by rw [hb]; exact h)
theorem wpList_load45 {ops : Array Oper} {rest : List Oper} {o : Oper} {a : Act} {w : World} {Q : Exit → Act → World → Prop} (hg : o.guard = none) (x : Operand) (ho : o.op = .load 45 x) (g : Nat) (t : TypeId) {u0 u1 u2 u3 u4 u5 u6 u7 u8 u9 u10 u11 u12 u13 u14 u15 u16 : Value} (hx : a.eval x = .pointer (some ⟨g, 0, none⟩)) (hB : Blk w g t #[u0, u1, u2, u3, u4, u5, u6, u7, u8, u9, u10, u11, u12, u13, u14, u15, u16]) (h : wpList Try.prog ops Q rest (a.put o.dst (.agg #[u0, u1, u2, u3, u4, u5, u6, u7, u8, u9, u10, u11, u12, u13, u14, u15, u16])) w) : wpList Try.prog ops Q (o :: rest) a w :=
  wpList_plain hg fun _ hK => wp_load45 x ho g t hx hB (hK _ _ h)
def DecC (l : List Int) (n : Nat) (w : World) (e : Ending) (w' : World) : Prop :=
  ∃ (v : Value) (x : CmdD) (code : Int), e = .returned (.tuple #[v, .int .i64 code]) ∧ HoldsC w' w'.heap.size v x ∧ x.Ok ∧ x.ds.length ≤ n ∧ x.bs.length ≤ n ∧
    ((code = 0 ∧ numsF l.length l 0 = some x.flat) ∨ (code = 13 ∧ x = CmdD.zero ∧ ∀ y : CmdD, (∀ d ∈ y.bs, IsByte d) → numsF l.length l 0 ≠ some y.flat)) ∧ Below w.heap.size w w'
set_option maxRecDepth 100000 in
set_option maxHeartbeats 2000000 in
theorem dec_any (A : Option Addr) (n c : Nat) (l : List Int) (w : World) (hS : Sl w w.heap.size A n (l.map (Value.int .u8))) (hb : Bytes l) (hn : n ≤ 1000000) :
    Calls Try.prog 28 #[.slice A n c] w (DecC l n w) := by
  have hl := hS.len
  have hd : decide ((1048576 : Int) < (n : Int)) = false := by simp; omega
  have hB1 : Below w.heap.size w (w.alloc (.cells #[.int .i64 0, .int .i64 0, .int .i64 0, .int .i64 0, .int .i64 0, .int .i64 0, .int .i64 0, .int .i64 0, .int .i64 0, .int .i64 0, .int .i64 0, .int .i64 0, .slice none 0 0, .int .i64 0, .int .i64 0, .int .i64 0, .slice none 0 0] 45)) := (Below.refl _ w).alloc (Nat.le_refl _) _
  have C42 := hide (cmd_rd (w := ((w.alloc (.cells #[.int .i64 0, .int .i64 0, .int .i64 0, .int .i64 0, .int .i64 0, .int .i64 0, .int .i64 0, .int .i64 0, .int .i64 0, .int .i64 0, .int .i64 0, .int .i64 0, .slice none 0 0, .int .i64 0, .int .i64 0, .int .i64 0, .slice none 0 0] 45)).alloc (.cells #[.int .i64 0, .int .i64 0, .int .i64 0, .int .i64 0, .int .i64 0, .int .i64 0, .int .i64 0, .int .i64 0, .int .i64 0, .int .i64 0, .int .i64 0, .int .i64 0, .slice none 0 0, .int .i64 0, .int .i64 0, .int .i64 0, .slice none 0 0] 45)).alloc (.cells #[.slice A n c, .int .i64 ((0 : Nat) : Int), .bool true, .bool false] 78)) (g := w.heap.size + 1) (B := w.heap.size) (tb := w.heap.size + 1 + 1) (a := 0) (bad := false) (l := l) (A := A) (n := n) (c := c)
    ⟨Blk.new_at (by simp) _ _, Nat.zero_le _⟩ (((hS.alloc (Nat.le_refl _) _).alloc (by simp) _).alloc (by simp; omega) _) (by omega) (by omega) hb (by omega) ((Blk.new_at (by simp) _ _).alloc _) (by omega))
  have R0 := hide (((Blk.new_at (w := w) rfl 45 #[.int .i64 0, .int .i64 0, .int .i64 0, .int .i64 0, .int .i64 0, .int .i64 0, .int .i64 0, .int .i64 0, .int .i64 0, .int .i64 0, .int .i64 0, .int .i64 0, .slice none 0 0, .int .i64 0, .int .i64 0, .int .i64 0, .slice none 0 0]).alloc (.cells #[.int .i64 0, .int .i64 0, .int .i64 0, .int .i64 0, .int .i64 0, .int .i64 0, .int .i64 0, .int .i64 0, .int .i64 0, .int .i64 0, .int .i64 0, .int .i64 0, .slice none 0 0, .int .i64 0, .int .i64 0, .int .i64 0, .slice none 0 0] 45)).alloc (.cells #[.slice A n c, .int .i64 ((0 : Nat) : Int), .bool true, .bool false] 78))
  have B0 := hide ((((Below.refl w.heap.size w).alloc (Nat.le_refl _) (.cells #[.int .i64 0, .int .i64 0, .int .i64 0, .int .i64 0, .int .i64 0, .int .i64 0, .int .i64 0, .int .i64 0, .int .i64 0, .int .i64 0, .int .i64 0, .int .i64 0, .slice none 0 0, .int .i64 0, .int .i64 0, .int .i64 0, .slice none 0 0] 45)).alloc (by simp) (.cells #[.int .i64 0, .int .i64 0, .int .i64 0, .int .i64 0, .int .i64 0, .int .i64 0, .int .i64 0, .int .i64 0, .int .i64 0, .int .i64 0, .int .i64 0, .int .i64 0, .slice none 0 0, .int .i64 0, .int .i64 0, .int .i64 0, .slice none 0 0] 45)).alloc (by simp; omega) (.cells #[.slice A n c, .int .i64 ((0 : Nat) : Int), .bool true, .bool false] 78))
  have HB := hide hb
  have HL := hide hl
  clear hS hb hl hB1
  unfold CmdR at C42
  go_enter Try.func28, Try.ntmps28
  go_wp2_with (fail)
  refine C42.out.mono ?_
  rintro e w4 ⟨rfl, x, A1, A2, c1, c2, a', bad', hok, hl1, hl2, hch, hT, hG, hD, hE, hK⟩
  have hsz := hK.size
  have R4 := hide (hK.blk R0.out (by omega) (by omega))
  have B4 := hide (hK.below B0.out (by omega) (by omega) (by simp; omega))
  have HOK := hide hok
  have HCH := hide hch
  have HT := hide hT
  have HG := hide hG
  have HD := hide hD
  have HE := hide hE
  have t3 : w4.cell? ⟨w.heap.size + 1 + 1, 3, none⟩ = some (.bool bad') := hT.1.cell 3
  have t1 : w4.cell? ⟨w.heap.size + 1 + 1, 1, none⟩ = some (.int .i64 a') := hT.1.cell 1
  clear hok hch hT hG hD hE hK R0 B0 C42 hd
  cases bad' with
  | true =>
      have hno : ∀ y : CmdD, (∀ d ∈ y.bs, IsByte d) → numsF l.length l 0 ≠ some y.flat := fun y hy hc => by have := HCH.out.2 y hy hc; cases this
      have HNO := hide hno
      clear hno
      go_upto_region 5 with (fail)
      refine wp_region_list ?_
      refine wpList_build45 rfl rfl ?_
      refine wpList_store_row rfl 45 (.tmp 2) (.tmp 27) rfl w.heap.size #[.int .i64 0, .int .i64 0, .int .i64 0, .int .i64 0, .int .i64 0, .int .i64 0, .int .i64 0, .int .i64 0, .int .i64 0, .int .i64 0, .int .i64 0, .int .i64 0, .slice none 0 0, .int .i64 0, .int .i64 0, .int .i64 0, .slice none 0 0] rfl rfl 45 #[.int .i64 0, .int .i64 0, .int .i64 0, .int .i64 0, .int .i64 0, .int .i64 0, .int .i64 0, .int .i64 0, .int .i64 0, .int .i64 0, .int .i64 0, .int .i64 0, .slice none 0 0, .int .i64 0, .int .i64 0, .int .i64 0, .slice none 0 0] R4.out size45 rfl (by simp [Value.oneCell']) ?_
      go_wp2
      refine bodyPost_ret (res45 rfl _ rfl (R4.out.row _)) rfl ?_
      exact ⟨_, CmdD.zero, 13, rfl, ⟨none, 0, none, 0, rfl, Sl.none_, Sl.none_⟩, CmdD.zero_ok, by simp [CmdD.zero], by simp [CmdD.zero], .inr ⟨rfl, rfl, HNO.out⟩, below_row B4.out (Nat.le_refl _) _⟩
  | false =>
    by_cases hat : a' = n
    · have hq : ((a' : Int) == (n : Int)) = true := by simp; omega
      have hq2 : ((a' : Int) != (n : Int)) = false := by simp; omega
      have hat2 : (a' : Int) = (n : Int) := by omega
      have hfl := HCH.out.1 (left_end (by have := HL.out; omega))
      have HFL := hide hfl
      have hgo1 : ∀ q, (Value.slice A1 x.ds.length c1).ownBlock = some q → q ≠ w.heap.size := fun q hq => by have := (HD.out.lt q hq).1; simp at this; omega
      have hgo2 : ∀ q, (Value.slice A2 x.bs.length c2).ownBlock = some q → q ≠ w.heap.size := fun q hq => by have := (HE.out.lt q hq).1; simp at this; omega
      have HG1 := hide (show Blk w4 (w.heap.size + 1) 45 #[.int .i64 x.n0, .int .i64 x.n1, .int .i64 x.n2, .int .i64 x.n3, .int .i64 x.n4, .int .i64 x.n5, .int .i64 x.n6, .int .i64 x.n7, .int .i64 x.n8, .int .i64 x.n9, .int .i64 x.n10, .int .i64 x.n11, .slice A1 x.ds.length c1, .int .i64 x.n13, .int .i64 x.n14, .int .i64 x.n15, .slice A2 x.bs.length c2] from HG.out)
      have HP1 := hide hgo1
      have HP2 := hide hgo2
      clear hfl hgo1 hgo2
      go_upto_region 6 with (fail)
      refine wp_region_list ?_
      refine wpList_load45 rfl (.tmp 4) rfl (w.heap.size + 1) 45 rfl HG1.out ?_
      refine wpList_store_row rfl 45 (.tmp 2) (.tmp 28) rfl w.heap.size #[.int .i64 x.n0, .int .i64 x.n1, .int .i64 x.n2, .int .i64 x.n3, .int .i64 x.n4, .int .i64 x.n5, .int .i64 x.n6, .int .i64 x.n7, .int .i64 x.n8, .int .i64 x.n9, .int .i64 x.n10, .int .i64 x.n11, .slice A1 x.ds.length c1, .int .i64 x.n13, .int .i64 x.n14, .int .i64 x.n15, .slice A2 x.bs.length c2] rfl rfl 45 #[.int .i64 0, .int .i64 0, .int .i64 0, .int .i64 0, .int .i64 0, .int .i64 0, .int .i64 0, .int .i64 0, .int .i64 0, .int .i64 0, .int .i64 0, .int .i64 0, .slice none 0 0, .int .i64 0, .int .i64 0, .int .i64 0, .slice none 0 0] R4.out size45 rfl (by simp [Value.oneCell']) ?_
      go_wp2
      refine bodyPost_ret (res45 rfl _ rfl (R4.out.row _)) rfl ?_
      exact ⟨_, x, 0, rfl, ⟨A1, c1, A2, c2, rfl, Sl.of_own (own_row HD.out HP1.out _), Sl.of_own (own_row HE.out HP2.out _)⟩, HOK.out, hl1, hl2, .inl ⟨rfl, HFL.out⟩, below_row B4.out (Nat.le_refl _) _⟩
    · have hno : ∀ y : CmdD, (∀ d ∈ y.bs, IsByte d) → numsF l.length l 0 ≠ some y.flat := fun y hy hc => by have h1 := HCH.out.2 y hy hc; have h2 := (left_end_only HT.out.2 HB.out h1).2; have := HL.out; omega
      have HNO := hide hno
      have hq : ((a' : Int) == (n : Int)) = false := by simp; omega
      have hq2 : ((a' : Int) != (n : Int)) = true := by simp; omega
      clear hno
      go_upto_region 5 with (fail)
      refine wp_region_list ?_
      refine wpList_build45 rfl rfl ?_
      refine wpList_store_row rfl 45 (.tmp 2) (.tmp 27) rfl w.heap.size #[.int .i64 0, .int .i64 0, .int .i64 0, .int .i64 0, .int .i64 0, .int .i64 0, .int .i64 0, .int .i64 0, .int .i64 0, .int .i64 0, .int .i64 0, .int .i64 0, .slice none 0 0, .int .i64 0, .int .i64 0, .int .i64 0, .slice none 0 0] rfl rfl 45 #[.int .i64 0, .int .i64 0, .int .i64 0, .int .i64 0, .int .i64 0, .int .i64 0, .int .i64 0, .int .i64 0, .int .i64 0, .int .i64 0, .int .i64 0, .int .i64 0, .slice none 0 0, .int .i64 0, .int .i64 0, .int .i64 0, .slice none 0 0] R4.out size45 rfl (by simp [Value.oneCell']) ?_
      go_wp2
      refine bodyPost_ret (res45 rfl _ rfl (R4.out.row _)) rfl ?_
      exact ⟨_, CmdD.zero, 13, rfl, ⟨none, 0, none, 0, rfl, Sl.none_, Sl.none_⟩, CmdD.zero_ok, by simp [CmdD.zero], by simp [CmdD.zero], .inr ⟨rfl, rfl, HNO.out⟩, below_row B4.out (Nat.le_refl _) _⟩
end Go.Proofs.Ytlcgpldngooekaa
