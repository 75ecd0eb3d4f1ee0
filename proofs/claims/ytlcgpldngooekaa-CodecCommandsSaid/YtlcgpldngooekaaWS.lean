/- One number of another type, or in a range, written to a tape: the contracts. -/
import Derived.Test.YtlcgpldngooekaaWI
namespace Go.Proofs.Ytlcgpldngooekaa
open Go.RowKit
set_option linter.unusedVariables false
theorem TW.alloc {base tb c : Nat} {xs : List Int} {w : World} {A : Option Addr} (h : TW base tb xs w A c) (o : Obj) : TW base tb xs (w.alloc o) A c := ⟨h.1.alloc o, World.ownsRow.alloc h.2.1 o, h.2.2.1, by simp; have := h.2.2.2; omega⟩
theorem MovT.set_same {tb g o : Nat} {a b : World} {v v' u : Value} {tg : TypeId} {cs : Array Value} (x : MovT tb a b v v') (hG : Blk b g tg cs) (hx : cs[o]? = some u) : MovT tb a (b.setCell ⟨g, o, none⟩ u) v v' := by
  refine ⟨x.os, x.tape, x.output, by simpa [World.setCell] using x.size, fun k hk h1 h2 => ?_, x.own⟩
  by_cases hkg : k = g
  · subst hkg
    have h3 := hG.set_ o u
    rw [Go.Proofs.Ytlcgpldngooekaa.set_same hx] at h3
    exact h3.trans (hG.symm.trans (x.block k hk h1 h2))
  · exact (Below.heap_setCell b ⟨g, o, none⟩ u k hkg).trans (x.block k hk h1 h2)
theorem TW.set_other {base tb c g o : Nat} {xs : List Int} {w : World} {A : Option Addr} (h : TW base tb xs w A c) (hg : tb ≠ g) (hgb : g < base) (u : Value) : TW base tb xs (w.setCell ⟨g, o, none⟩ u) A c :=
  ⟨h.1.far (p := ⟨g, o, none⟩) hg u, own_far1 h.2.1 (p := ⟨g, o, none⟩) (fun q hq => by have := (h.2.1.lt q hq).1; simp; omega) u, h.2.2.1, by simpa [World.setCell] using h.2.2.2⟩
theorem TW.set_own {base tb c g o : Nat} {xs : List Int} {w : World} {A : Option Addr} (h : TW base tb xs w A c) (hg : tb ≠ g) (hgb : ∀ q, (Value.slice A xs.length c).ownBlock = some q → q ≠ g) (u : Value) : TW base tb xs (w.setCell ⟨g, o, none⟩ u) A c :=
  ⟨h.1.far (p := ⟨g, o, none⟩) hg u, own_far1 h.2.1 (p := ⟨g, o, none⟩) hgb u, h.2.2.1, by simpa [World.setCell] using h.2.2.2⟩
set_option maxRecDepth 100000 in
set_option maxHeartbeats 1000000 in
theorem small_wr {base tb c g o : Nat} {xs : List Int} {A : Option Addr} {w : World} {tg : TypeId} {cs : Array Value} {x : Int} (hT : TW base tb xs w A c) (hG : Blk w g tg cs) (hx : cs[o]? = some (.int .i64 x)) (hfx : Fit x) (hlen : xs.length ≤ 1000000000) (hgt : g ≠ tb) (hgb : g < base) :
    Calls Try.prog 56 #[.pointer (some ⟨tb, 0, none⟩), .pointer (some ⟨g, o, none⟩)] w (IntW base tb xs A c (codeN x) w) := by
  have hlt := hG.lt
  have htl := hT.1.lt
  have hqo : ∀ q, (Value.slice A xs.length c).ownBlock = some q → base ≤ q ∧ q < w.heap.size := fun q hq => hT.2.1.lt q hq
  have C57 := hide (int_wr (x := x) (hT.alloc (.cells #[.int .i64 x] 2)) (Blk.new w 2 #[.int .i64 x]) (o := 0) rfl hfx hlen)
  have g0 : w.cell? ⟨g, o, none⟩ = some (.int .i64 x) := (hG.cell o).trans hx
  have qX : Blk (w.alloc (.cells #[.int .i64 x] 2)) w.heap.size 2 #[.int .i64 x] := Blk.new _ _ _
  have HX0 := hide qX
  have HG := hide (hG.alloc (.cells #[.int .i64 x] 2))
  have HX := hide hx
  have HK := hide ((MovT.refl tb w (.slice A xs.length c)).alloc (.cells #[.int .i64 x] 2))
  clear hT hG hx hfx qX
  unfold IntW at C57
  go_enter Try.func56, Try.ntmps56
  go_wp2_with (fail)
  refine C57.out.mono ?_
  rintro e w2 ⟨rfl, A', c', hT2, hm2⟩
  have G2 := hide (hm2.blk HG.out hgt (fun k hk => by have := hqo k hk; omega))
  have X2 := hide (hm2.blk HX0.out (by omega) (fun k hk => by have := hqo k hk; omega))
  have K2 := hide (HK.out.trans hm2)
  have T2 := hide hT2
  have x0 : w2.cell? ⟨w.heap.size, 0, none⟩ = some (.int .i64 x) := X2.out.cell 0
  have g1 : w2.cell? ⟨g, o, none⟩ = some (.int .i64 x) := (G2.out.cell o).trans HX.out
  have f1 := G2.out.frozen o
  clear hT2 hm2 C57
  go_wp2
  go_end0
  exact ⟨rfl, A', c', T2.out.set_other (Ne.symm hgt) hgb _, K2.out.set_same G2.out HX.out⟩
set_option maxRecDepth 100000 in
set_option maxHeartbeats 1000000 in
theorem within_wr {base tb c g o : Nat} {xs : List Int} {A : Option Addr} {w : World} {tg : TypeId} {cs : Array Value} {x : Int} (lo hi : Int) (hT : TW base tb xs w A c) (hG : Blk w g tg cs) (hx : cs[o]? = some (.int .i64 x)) (hfx : Fit x) (hlen : xs.length ≤ 1000000000) :
    Calls Try.prog 67 #[.pointer (some ⟨tb, 0, none⟩), .pointer (some ⟨g, o, none⟩), .int .i64 lo, .int .i64 hi] w (IntW base tb xs A c (codeN x) w) := by
  have C57 := hide (int_wr hT hG hx hfx hlen)
  clear hT hG hx hfx
  unfold IntW at C57
  go_enter Try.func67, Try.ntmps67
  go_wp2_with (fail)
  refine C57.out.mono ?_
  rintro e w2 ⟨rfl, A', c', hT2, hm2⟩
  have t2 : w2.cell? ⟨tb, 2, none⟩ = some (.bool false) := hT2.1.cell 2
  have T2 := hide hT2
  have K2 := hide hm2
  clear hT2 hm2 C57
  go_wp2
  go_end0
  exact ⟨rfl, A', c', T2.out, K2.out⟩
end Go.Proofs.Ytlcgpldngooekaa
