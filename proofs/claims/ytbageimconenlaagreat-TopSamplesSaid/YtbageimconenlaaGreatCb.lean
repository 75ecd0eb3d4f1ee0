/- A source of draws; one more item for a chain: the contracts. -/
import Derived.Test.YtbageimconenlaaGreatCa
namespace Go.Proofs.YtbageimconenlaaGreat
open Go.RowKit
set_option linter.unusedVariables false
def SrcR (x c : Int) (A : Option Addr) (n k g : Nat) (at' : Nat) (bey' : Int) (w : World) (e : Ending) (w' : World) : Prop :=
  e = .returned (.tuple #[.int .i64 x, .int .i64 c]) ∧ Blk w' g 257 #[.slice A n k, .int .i64 at', .int .i64 bey'] ∧ Keep g g w w'
theorem Keep.undrewN {tb g : Nat} {a b : World} {k : Nat} (x : Keep tb g (a.drewN k) b) : Keep tb g a b := ⟨x.os, x.tape, x.output, x.size, x.block⟩
set_option maxRecDepth 100000 in
set_option maxHeartbeats 1000000 in
theorem src_ok {l : List Int} {A : Option Addr} {n k g B at_ : Nat} {bey m d : Int} {w : World} (hC : Blk w g 257 #[.slice A n k, .int .i64 at_, .int .i64 bey]) (hS : Sl w B A n (l.map (Value.int .i64))) (hn : n ≤ 9223372036854775806) (hd : l[at_]? = some d) (h0 : 0 ≤ d) (h1 : d < m) :
    Calls Tryz.prog 209 #[.pointer (some ⟨g, 0, none⟩), .int .i64 m] w (SrcR d 0 A n k g (at_ + 1) bey w) := by
  have hlt : at_ < n := by have := (List.getElem?_eq_some_iff.1 hd).1; have := hS.len; omega
  have hv : nextV l at_ m = (d, (at_ : Int) + 1, 0) := by
    unfold nextV
    rw [if_neg (by omega), show ((at_ : Int)).toNat = at_ by omega, hd]
    exact if_pos ⟨h0, h1⟩
  have C226 := hide (fun (q : Nat) => next_any A n k B at_ m l (w.drewN q) (hS.drewN q) (by omega))
  unfold NextEnd at C226
  rw [hv] at C226
  have HC := hide hC
  have c0 := hC.cell 0
  have c1 := hC.cell 1
  have K0 := hide (Keep.refl g g w)
  clear hS hv hC hd h0 h1
  go_enter Tryz.func209, Tryz.ntmps209
  go_upto_region 1 with (fail)
  go_quiet ((go_at_call 226; exact Calls.quiet_of_same ((C226.out _).mono fun e w' h => ⟨h.1, h.2.symm⟩)))
  have C1 := hide (HC.out.drewN nq)
  have K1 := hide (K0.out.drewN nq)
  clear HC c0 c1 C226 K0
  generalize w.drewN nq = w1 at *
  have f1 := C1.out.frozen 1
  have c1 := C1.out.cell 1
  go_wp2
  go_ret2
  exact ⟨rfl, by simpa using C1.out.set_ 1 _, K1.out.set_tb 1 _⟩
set_option maxRecDepth 100000 in
set_option maxHeartbeats 1000000 in
theorem src_none {l : List Int} {A : Option Addr} {n k g B at_ : Nat} {bey m : Int} {w : World} (hC : Blk w g 257 #[.slice A n k, .int .i64 at_, .int .i64 bey]) (hS : Sl w B A n (l.map (Value.int .i64))) (hn : n ≤ 9223372036854775806) (hd : l[at_]? = none) (hat : at_ ≤ n) (hm : 1 ≤ m) :
    Calls Tryz.prog 209 #[.pointer (some ⟨g, 0, none⟩), .int .i64 m] w (SrcR 0 8 A n k g at_ m w) := by
  have hle : n ≤ at_ := by have := List.getElem?_eq_none_iff.1 hd; have := hS.len; omega
  obtain rfl : at_ = n := by omega
  have hv : nextV l at_ m = (0, 0, 8) := by
    unfold nextV
    rw [if_neg (by omega), show ((at_ : Int)).toNat = at_ by omega, hd]
  have C226 := hide (fun (q : Nat) => next_any A at_ k B at_ m l (w.drewN q) (hS.drewN q) (by omega))
  unfold NextEnd at C226
  rw [hv] at C226
  have HC := hide hC
  have c0 := hC.cell 0
  have c1 := hC.cell 1
  have K0 := hide (Keep.refl g g w)
  clear hS hv hC hd
  go_enter Tryz.func209, Tryz.ntmps209
  go_upto_region 1 with (fail)
  go_quiet ((go_at_call 226; exact Calls.quiet_of_same ((C226.out _).mono fun e w' h => ⟨h.1, h.2.symm⟩)))
  have C1 := hide (HC.out.drewN nq)
  have K1 := hide (K0.out.drewN nq)
  clear HC c0 c1 C226 K0
  generalize w.drewN nq = w1 at *
  have c0 := C1.out.cell 0
  have c1 := C1.out.cell 1
  go_upto_region 3 with (fail)
  go_quiet (fail)
  have C2 := hide (C1.out.drewN nq)
  have K2 := hide (K1.out.drewN nq)
  clear C1 c0 c1 K1
  generalize w1.drewN nq = w2 at *
  have f2 := C2.out.frozen 2
  have c2 := C2.out.cell 2
  go_wp2
  go_ret2
  exact ⟨rfl, by simpa using C2.out.set_ 2 _, K2.out.set_tb 2 _⟩
end Go.Proofs.YtbageimconenlaaGreat
