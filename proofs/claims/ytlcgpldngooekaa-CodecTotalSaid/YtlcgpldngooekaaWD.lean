/- A word read from a tape and written to it: the contracts. -/
import Derived.Test.YtlcgpldngooekaaWB
import Derived.Test.YtlcgpldngooekaaRep
namespace Go.Proofs.Ytlcgpldngooekaa
open Go.RowKit
set_option linter.unusedVariables false
set_option maxRecDepth 100000
def WordR (l : List Int) (A : Option Addr) (n c tb a : Nat) (bad : Bool) (g o : Nat) (tg : TypeId) (cs : Array Value) (w : World) (e : Ending) (w' : World) : Prop :=
  e = .returned (.tuple #[]) ∧ ∃ (x : Int) (a' : Nat) (bad' : Bool), Fit x ∧ StepI l a bad x a' bad' ∧ TR l A n c w' tb a' bad' ∧ Blk w' g tg (cs.setIfInBounds o (.int .u64 (U64 x))) ∧ Keep tb g w w'
set_option maxHeartbeats 1000000 in
theorem word_rd {l : List Int} {A : Option Addr} {n c B tb a : Nat} {bad : Bool} {w : World} {g o : Nat} {tg : TypeId} {cs : Array Value} {x : Int} (hT : TR l A n c w tb a bad) (hS : Sl w B A n (l.map (Value.int .u8))) (hB : B ≤ w.heap.size) (hb : Bytes l) (hn : n ≤ 9223372036854775000)
    (hG : Blk w g tg cs) (hx : cs[o]? = some (.int .u64 (U64 x))) (hfx : Fit x) (hne : g ≠ tb) :
    Calls Try.prog 68 #[.pointer (some ⟨tb, 0, none⟩), .pointer (some ⟨g, o, none⟩)] w (WordR l A n c tb a bad g o tg cs w) := by
  have hlt := hG.lt
  have htl := hT.1.lt
  have C57 := hide (int_rd (x := x) (hT.alloc (.cells #[.int .i64 x] 2)) (hS.alloc hB (.cells #[.int .i64 x] 2)) hb hn (Blk.new w 2 #[.int .i64 x]) (o := 0) rfl hfx (by omega))
  have g0 : w.cell? ⟨g, o, none⟩ = some (.int .u64 (U64 x)) := (hG.cell o).trans hx
  have qG : Blk (w.alloc (.cells #[.int .i64 x] 2)) g tg cs := hG.alloc _
  have qK : Keep tb g w (w.alloc (.cells #[.int .i64 x] 2)) := (Keep.refl _ _ _).alloc _
  have HG := hide qG
  have HX := hide hx
  have HK := hide qK
  have hwx := U64.back hfx
  generalize hX : U64 x = X at *
  clear hT hS hG hx hfx qG qK
  unfold IntR at C57
  go_enter Try.func68, Try.ntmps68
  go_wp2_with (fail)
  refine C57.out.mono ?_
  rintro e w2 ⟨rfl, y, a', bad', hfy, hst, hT2, hX2, hK2⟩
  have G2 := hide (hK2.blk HG.out (by omega) (by omega))
  have K2 := hide (HK.out.own hK2 (Nat.le_refl _))
  have x0 : w2.cell? ⟨w.heap.size, 0, none⟩ = some (.int .i64 y) := hX2.cell 0
  have g1 : w2.cell? ⟨g, o, none⟩ = some (.int .u64 X) := (G2.out.cell o).trans HX.out
  have f1 := G2.out.frozen o
  have HU : IntKind.u64.wrap y = U64 y := U64.of_i64 y
  have HST := hide hst
  have HFY := hide hfy
  have HT2 := hide hT2
  clear hst hfy hT2 hX2 hK2
  go_wp2
  go_end0
  exact ⟨rfl, y, a', bad', HFY.out, HST.out, HT2.out.far (by simp; omega) _, G2.out.set_ o _, K2.out.set_g _ _⟩
set_option maxRecDepth 100000 in
set_option maxHeartbeats 1000000 in
theorem word_wr {base tb c g o : Nat} {xs : List Int} {A : Option Addr} {w : World} {tg : TypeId} {cs : Array Value} {x : Int} (hT : TW base tb xs w A c) (hG : Blk w g tg cs) (hx : cs[o]? = some (.int .u64 (U64 x))) (hfx : Fit x) (hlen : xs.length ≤ 1000000000) (hgt : g ≠ tb) (hgb : g < base) :
    Calls Try.prog 68 #[.pointer (some ⟨tb, 0, none⟩), .pointer (some ⟨g, o, none⟩)] w (IntW base tb xs A c (codeN x) w) := by
  have hlt := hG.lt
  have htl := hT.1.lt
  have hqo : ∀ q, (Value.slice A xs.length c).ownBlock = some q → base ≤ q ∧ q < w.heap.size := fun q hq => hT.2.1.lt q hq
  have C57 := hide (int_wr (x := x) (hT.alloc (.cells #[.int .i64 x] 2)) (Blk.new w 2 #[.int .i64 x]) (o := 0) rfl hfx hlen)
  have g0 : w.cell? ⟨g, o, none⟩ = some (.int .u64 (U64 x)) := (hG.cell o).trans hx
  have qX : Blk (w.alloc (.cells #[.int .i64 x] 2)) w.heap.size 2 #[.int .i64 x] := Blk.new _ _ _
  have HX0 := hide qX
  have HG := hide (hG.alloc (.cells #[.int .i64 x] 2))
  have HX := hide hx
  have HK := hide ((MovT.refl tb w (.slice A xs.length c)).alloc (.cells #[.int .i64 x] 2))
  have hwx := U64.back hfx
  have HU : IntKind.u64.wrap x = U64 x := U64.of_i64 x
  generalize hX : U64 x = X at *
  clear hT hG hx hfx qX
  unfold IntW at C57
  go_enter Try.func68, Try.ntmps68
  go_wp2_with (fail)
  refine C57.out.mono ?_
  rintro e w2 ⟨rfl, A', c', hT2, hm2⟩
  have G2 := hide (hm2.blk HG.out hgt (fun k hk => by have := hqo k hk; omega))
  have X2 := hide (hm2.blk HX0.out (by omega) (fun k hk => by have := hqo k hk; omega))
  have K2 := hide (HK.out.trans hm2)
  have T2 := hide hT2
  have x0 : w2.cell? ⟨w.heap.size, 0, none⟩ = some (.int .i64 x) := X2.out.cell 0
  have g1 : w2.cell? ⟨g, o, none⟩ = some (.int .u64 X) := (G2.out.cell o).trans HX.out
  have f1 := G2.out.frozen o
  clear hT2 hm2 C57
  go_wp2
  go_end0
  exact ⟨rfl, A', c', T2.out.set_other (Ne.symm hgt) hgb _, K2.out.set_same G2.out HX.out⟩
end Go.Proofs.Ytlcgpldngooekaa
