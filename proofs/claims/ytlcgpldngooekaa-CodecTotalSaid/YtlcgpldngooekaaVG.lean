/- One number written to a tape: the contracts. | One number of another type, or in a range, written to a tape: the contracts. -/
import Derived.Test.YtlcgpldngooekaaTL
import Derived.Deep.RegionWith
namespace Go.Proofs.Ytlcgpldngooekaa
open Go.RowKit
set_option linter.unusedVariables false
/-- from w to w' the tape tb may have turned, and the row v, which is v' now -/
structure MovT (tb : Nat) (w w' : World) (v v' : Value) : Prop where
  os : w'.os = w.os
  tape : w'.tape = w.tape
  output : w'.output = w.output
  size : w.heap.size ≤ w'.heap.size
  block : ∀ k, k < w.heap.size → k ≠ tb → some k ≠ v.ownBlock → w'.heap[k]? = w.heap[k]?
  own : v'.ownBlock = v.ownBlock ∨ ∃ g, v'.ownBlock = some g ∧ w.heap.size ≤ g
section
variable {tb : Nat} {a b c w w' : World} {v v' v'' : Value}
theorem MovT.refl (tb : Nat) (w : World) (v : Value) : MovT tb w w v v := ⟨rfl, rfl, rfl, Nat.le_refl _, fun _ _ _ _ => rfl, .inl rfl⟩
theorem MovT.trans (x : MovT tb a b v v') (y : MovT tb b c v' v'') : MovT tb a c v v'' := by
  refine ⟨y.os.trans x.os, y.tape.trans x.tape, y.output.trans x.output, Nat.le_trans x.size y.size, fun k hk h1 h2 => ?_, ?_⟩
  · refine (y.block k (Nat.lt_of_lt_of_le hk x.size) h1 ?_).trans (x.block k hk h1 h2)
    rcases x.own with h | ⟨g, h, hg⟩
    · rw [h]; exact h2
    · rw [h]; intro e; injection e with e; omega
  · rcases y.own with h | ⟨g, h, hg⟩
    · rcases x.own with h' | ⟨g, h', hg⟩
      · exact .inl (h.trans h')
      · exact .inr ⟨g, h.trans h', hg⟩
    · exact .inr ⟨g, h, Nat.le_trans x.size hg⟩
theorem MovT.alloc (x : MovT tb a b v v') (o : Obj) : MovT tb a (b.alloc o) v v' :=
  ⟨x.os, x.tape, x.output, Nat.le_trans x.size (by simp), fun k hk h1 h2 => (Below.heap_alloc b o k (Nat.lt_of_lt_of_le hk x.size)).trans (x.block k hk h1 h2), x.own⟩
theorem MovT.drew (x : MovT tb a b v v') : MovT tb a b.drew v v' := ⟨x.os, x.tape, x.output, x.size, x.block, x.own⟩
theorem MovT.undrew (x : MovT tb a.drew b v v') : MovT tb a b v v' := ⟨x.os, x.tape, x.output, x.size, x.block, x.own⟩
theorem MovT.set_tb (x : MovT tb a b v v') (i : Nat) (u : Value) : MovT tb a (b.setCell ⟨tb, i, none⟩ u) v v' :=
  ⟨x.os, x.tape, x.output, by simpa [World.setCell] using x.size, fun k hk h1 h2 => (Below.heap_setCell b ⟨tb, i, none⟩ u k h1).trans (x.block k hk h1 h2), x.own⟩
theorem MovT.of_moved (x : Moved a b v v') : MovT tb a b v v' := ⟨x.1.os, x.1.tape, x.1.output, x.1.size, fun k hk _ h2 => x.1.block k hk h2, x.2⟩
/-- a block of the call's own, newer than a, may turn -/
theorem MovT.set_own (x : MovT tb a b v v') {h : Nat} (hh : a.heap.size ≤ h) (i : Nat) (u : Value) : MovT tb a (b.setCell ⟨h, i, none⟩ u) v v' :=
  ⟨x.os, x.tape, x.output, by simpa [World.setCell] using x.size, fun k hk h1 h2 => (Below.heap_setCell b ⟨h, i, none⟩ u k (by simp; omega)).trans (x.block k hk h1 h2), x.own⟩
theorem MovT.blk {q : Nat} {t : TypeId} {cs : Array Value} (x : MovT tb a b v v') (y : Blk a q t cs) (h1 : q ≠ tb) (h2 : ∀ k, v.ownBlock = some k → k ≠ q) : Blk b q t cs :=
  (x.block q y.lt h1 (fun e => h2 q e.symm rfl)).trans y
theorem MovT.below {B : Nat} (x : MovT tb a b v v') {w : World} (y : Below B w a) (h1 : B ≤ tb) (h2 : ∀ k, v.ownBlock = some k → B ≤ k) (h3 : B ≤ a.heap.size) : Below B w b :=
  y.trans ⟨x.os, x.tape, x.output, x.size, fun k hk => x.block k (by omega) (by omega) (fun e => by have := h2 k e.symm; omega)⟩
theorem MovT.sl {B n : Nat} {A : Option Addr} {xs : List Value} (x : MovT tb a b v v') (y : Sl a B A n xs) (h1 : B ≤ tb) (h2 : ∀ k, v.ownBlock = some k → B ≤ k) (h3 : B ≤ a.heap.size) : Sl b B A n xs := y.below (x.below (Below.refl B a) h1 h2 h3)
end
/-- the tape tb holds what was written, xs, in a row of the call's own -/
def TW (base tb : Nat) (xs : List Int) (w : World) (A : Option Addr) (c : Nat) : Prop :=
  Blk w tb 78 #[.slice A xs.length c, .int .i64 0, .bool false, .bool false] ∧ w.ownsRow base 5 1 (.slice A xs.length c) xs.length (xs.map (Value.int .u8)) ∧ tb < base ∧ base ≤ w.heap.size
def IntW (base tb : Nat) (xs : List Int) (A : Option Addr) (c : Nat) (ys : List Int) (w : World) (e : Ending) (w' : World) : Prop :=
  e = .returned (.tuple #[]) ∧ ∃ (A' : Option Addr) (c' : Nat), TW base tb (xs ++ ys) w' A' c' ∧ MovT tb w w' (.slice A xs.length c) (.slice A' (xs ++ ys).length c')
set_option maxRecDepth 100000 in
set_option maxHeartbeats 1000000 in
theorem int_wr {base tb c g o : Nat} {xs : List Int} {A : Option Addr} {w : World} {tg : TypeId} {cs : Array Value} {x : Int} (hT : TW base tb xs w A c) (hG : Blk w g tg cs) (hx : cs[o]? = some (.int .i64 x)) (hfx : Fit x) (hlen : xs.length ≤ 1000000000) :
    Calls Try.prog 57 #[.pointer (some ⟨tb, 0, none⟩), .pointer (some ⟨g, o, none⟩)] w (IntW base tb xs A c (codeN x) w) := by
  obtain ⟨hT, hO, htb, hbw⟩ := hT
  have t0 : w.cell? ⟨tb, 0, none⟩ = some (.slice A xs.length c) := hT.cell 0
  have t2 : w.cell? ⟨tb, 2, none⟩ = some (.bool false) := hT.cell 2
  have f0 := hT.frozen 0
  have g0 : w.cell? ⟨g, o, none⟩ = some (.int .i64 x) := (hG.cell o).trans hx
  have C39 := hide (fun (w1 : World) (h : w1.ownsRow base 5 1 (.slice A xs.length c) xs.length (xs.map (Value.int .u8))) (hb : base ≤ w1.heap.size) => tapp_any base A c xs x w1 h hb hfx (by omega))
  have HO0 := hide hO
  have hqo : ∀ q, (Value.slice A xs.length c).ownBlock = some q → base ≤ q := fun q hq => (hO.lt q hq).1
  have HT := hide hT
  clear hT hO hG hx hfx
  unfold AppEnd at C39
  generalize hM : (xs ++ codeN x).length = M at *
  have HM := hide hM
  clear hM
  generalize hN : xs.length = N at *
  have HN := hide hN
  clear hN
  go_enter Try.func57, Try.ntmps57
  go_upto_region 1 with (fail)
  have K0 := hide (MovT.refl tb w (.slice A N c))
  go_region_with (go_at_call 39; refine (C39.out _ ?_ ?_).mono ?_; (· first | exact HO0.out | exact World.ownsRow.drew HO0.out); (· exact hbw); rintro e w1 ⟨A', c', rfl, hown, hmv⟩; have hmv' : MovT tb w w1 (.slice A N c) (.slice A' M c') := (by first | exact MovT.of_moved hmv | exact (MovT.of_moved hmv).undrew); have T1 := hide (hmv'.size); have T2 : Blk w1 tb 78 #[.slice A N c, .int .i64 0, .bool false, .bool false] := ((by first | exact MovT.of_moved (tb := w1.heap.size) hmv | exact (MovT.of_moved (tb := w1.heap.size) hmv).undrew) : MovT w1.heap.size w w1 (.slice A N c) (.slice A' M c')).blk HT.out (by have := hmv'.size; have := HT.out.lt; omega) (fun k hk => by have := hqo k hk; omega); have t1 : w1.cell? ⟨tb, 0, none⟩ = some (.slice A N c) := T2.cell 0; have f1 := T2.frozen 0; have HO := hide hown; have HV := hide hmv'; clear hown hmv)
  all_goals
   go_wp2
   go_end0
   have hb1 : base ≤ w1.heap.size := Nat.le_trans hbw HV.out.size
   have hq1 : ∀ q, (Value.slice A' M c').ownBlock = some q → q ≠ tb := fun q hq => by have := (HO.out.lt q hq).1; omega
   have HX := hide (show TW base tb (xs ++ codeN x) (w1.setCell ⟨tb, 0, none⟩ (.slice A' M c')) A' c' from ⟨by rw [HM.out]; simpa using T2.set_ 0 (.slice A' M c'), by rw [HM.out]; exact own_far1 HO.out (p := ⟨tb, 0, none⟩) hq1 _, htb, by simpa [World.setCell] using hb1⟩)
   have HY := hide (show MovT tb w (w1.setCell ⟨tb, 0, none⟩ (.slice A' M c')) (.slice A xs.length c) (.slice A' (xs ++ codeN x).length c') by rw [HM.out, HN.out]; exact HV.out.set_tb 0 _)
   first
   | exact ⟨rfl, A', c', HX.out, HY.out⟩
   | exact ⟨rfl, A', c', HX.out, HY.out.drew⟩
end Go.Proofs.Ytlcgpldngooekaa
namespace Go.Proofs.Ytlcgpldngooekaa
open Go.RowKit
set_option linter.unusedVariables false
theorem TW.alloc {base tb c : Nat} {xs : List Int} {w : World} {A : Option Addr} (h : TW base tb xs w A c) (o : Obj) : TW base tb xs (w.alloc o) A c := ⟨h.1.alloc o, World.ownsRow.alloc h.2.1 o, h.2.2.1, by simp; have := h.2.2.2; omega⟩
theorem MovT.set_same {tb g o : Nat} {a b : World} {v v' u : Value} {tg : TypeId} {cs : Array Value} (x : MovT tb a b v v') (hG : Blk b g tg cs) (hx : cs[o]? = some u) : MovT tb a (b.setCell ⟨g, o, none⟩ u) v v' := by
  refine ⟨x.os, x.tape, x.output, by simpa [World.setCell] using x.size, fun k hk h1 h2 => ?_, x.own⟩
  by_cases hkg : k = g
  · subst hkg
    have h3 := hG.set_ o u
    rw [Go.Proofs.Ytlcgpldngooekaa.set_same hx] at h3
    exact h3.trans (hG.symm.trans (x.block k hk h1 h2))
  · exact (Below.heap_setCell b ⟨g, o, none⟩ u k hkg).trans (x.block k hk h1 h2)
theorem TW.set_other {base tb c g o : Nat} {xs : List Int} {w : World} {A : Option Addr} (h : TW base tb xs w A c) (hg : tb ≠ g) (hgb : g < base) (u : Value) : TW base tb xs (w.setCell ⟨g, o, none⟩ u) A c :=
  ⟨h.1.far (p := ⟨g, o, none⟩) hg u, own_far1 h.2.1 (p := ⟨g, o, none⟩) (fun q hq => by have := (h.2.1.lt q hq).1; simp; omega) u, h.2.2.1, by simpa [World.setCell] using h.2.2.2⟩
theorem TW.set_own {base tb c g o : Nat} {xs : List Int} {w : World} {A : Option Addr} (h : TW base tb xs w A c) (hg : tb ≠ g) (hgb : ∀ q, (Value.slice A xs.length c).ownBlock = some q → q ≠ g) (u : Value) : TW base tb xs (w.setCell ⟨g, o, none⟩ u) A c :=
  ⟨h.1.far (p := ⟨g, o, none⟩) hg u, own_far1 h.2.1 (p := ⟨g, o, none⟩) hgb u, h.2.2.1, by simpa [World.setCell] using h.2.2.2⟩
set_option maxRecDepth 100000 in
set_option maxHeartbeats 1000000 in
theorem small_wr {base tb c g o : Nat} {xs : List Int} {A : Option Addr} {w : World} {tg : TypeId} {cs : Array Value} {x : Int} (hT : TW base tb xs w A c) (hG : Blk w g tg cs) (hx : cs[o]? = some (.int .i64 x)) (hfx : Fit x) (hlen : xs.length ≤ 1000000000) (hgt : g ≠ tb) (hgb : g < base) :
    Calls Try.prog 56 #[.pointer (some ⟨tb, 0, none⟩), .pointer (some ⟨g, o, none⟩)] w (IntW base tb xs A c (codeN x) w) := by
  have hlt := hG.lt
  have htl := hT.1.lt
  have hqo : ∀ q, (Value.slice A xs.length c).ownBlock = some q → base ≤ q ∧ q < w.heap.size := fun q hq => hT.2.1.lt q hq
  have C57 := hide (int_wr (x := x) (hT.alloc (.cells #[.int .i64 x] 2)) (Blk.new w 2 #[.int .i64 x]) (o := 0) rfl hfx hlen)
  have g0 : w.cell? ⟨g, o, none⟩ = some (.int .i64 x) := (hG.cell o).trans hx
  have qX : Blk (w.alloc (.cells #[.int .i64 x] 2)) w.heap.size 2 #[.int .i64 x] := Blk.new _ _ _
  have HX0 := hide qX
  have HG := hide (hG.alloc (.cells #[.int .i64 x] 2))
  have HX := hide hx
  have HK := hide ((MovT.refl tb w (.slice A xs.length c)).alloc (.cells #[.int .i64 x] 2))
  clear hT hG hx hfx qX
  unfold IntW at C57
  go_enter Try.func56, Try.ntmps56
  go_wp2_with (fail)
  refine C57.out.mono ?_
  rintro e w2 ⟨rfl, A', c', hT2, hm2⟩
  have G2 := hide (hm2.blk HG.out hgt (fun k hk => by have := hqo k hk; omega))
  have X2 := hide (hm2.blk HX0.out (by omega) (fun k hk => by have := hqo k hk; omega))
  have K2 := hide (HK.out.trans hm2)
  have T2 := hide hT2
  have x0 : w2.cell? ⟨w.heap.size, 0, none⟩ = some (.int .i64 x) := X2.out.cell 0
  have g1 : w2.cell? ⟨g, o, none⟩ = some (.int .i64 x) := (G2.out.cell o).trans HX.out
  have f1 := G2.out.frozen o
  clear hT2 hm2 C57
  go_wp2
  go_end0
  exact ⟨rfl, A', c', T2.out.set_other (Ne.symm hgt) hgb _, K2.out.set_same G2.out HX.out⟩
set_option maxRecDepth 100000 in
set_option maxHeartbeats 1000000 in
theorem within_wr {base tb c g o : Nat} {xs : List Int} {A : Option Addr} {w : World} {tg : TypeId} {cs : Array Value} {x : Int} (lo hi : Int) (hT : TW base tb xs w A c) (hG : Blk w g tg cs) (hx : cs[o]? = some (.int .i64 x)) (hfx : Fit x) (hlen : xs.length ≤ 1000000000) :
    Calls Try.prog 67 #[.pointer (some ⟨tb, 0, none⟩), .pointer (some ⟨g, o, none⟩), .int .i64 lo, .int .i64 hi] w (IntW base tb xs A c (codeN x) w) := by
  have C57 := hide (int_wr hT hG hx hfx hlen)
  clear hT hG hx hfx
  unfold IntW at C57
  go_enter Try.func67, Try.ntmps67
  go_wp2_with (fail)
  refine C57.out.mono ?_
  rintro e w2 ⟨rfl, A', c', hT2, hm2⟩
  have t2 : w2.cell? ⟨tb, 2, none⟩ = some (.bool false) := hT2.1.cell 2
  have T2 := hide hT2
  have K2 := hide hm2
  clear hT2 hm2 C57
  go_wp2
  go_end0
  exact ⟨rfl, A', c', T2.out, K2.out⟩
end Go.Proofs.Ytlcgpldngooekaa
