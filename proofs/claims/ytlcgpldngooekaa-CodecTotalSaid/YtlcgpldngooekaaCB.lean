/- The reference's cursor: a text: the contract. -/
import Derived.Test.YtlcgpldngooekaaVD
import Derived.Test.YtlcgpldngooekaaTB
namespace Go.Proofs.Ytlcgpldngooekaa
open Go.RowKit
set_option linter.unusedVariables false
theorem took_byte {s t : Option (List Int)} {x : Int} (h : Took Any s t x) (hx : 0 ≤ x ∧ x ≤ 255) : Took IsByte s t x := ⟨fun R hR => ⟨hx, (h.1 R hR).2⟩, fun y R _ hs => h.2 y R trivial hs⟩
def CByteR (L : List Int) (A : Option Addr) (n c cb a : Nat) (bad : Bool) (w : World) (e : Ending) (w' : World) : Prop :=
  ∃ (ds : List Int) (A' : Option Addr) (c' a' : Nat) (bad' : Bool), e = .returned (.slice A' ds.length c') ∧ TookL IsByte (curV L a bad) (curV L a' bad') ds ∧ (∀ d ∈ ds, 0 ≤ d ∧ d ≤ 255) ∧ ds.length ≤ n ∧ CR L A n c w' cb a' bad' ∧ w'.ownsRow w.heap.size 5 1 (.slice A' ds.length c') ds.length (ds.map (Value.int .u8)) ∧ Keep cb cb w w'
set_option maxRecDepth 100000 in
set_option maxHeartbeats 2000000 in
theorem cbyte_any {L : List Int} {A : Option Addr} {n c B cb a : Nat} {bad : Bool} {w : World} (hC : CR L A n c w cb a bad) (hS : Sl w B A n (L.map (Value.int .i64))) (hi : Ints L) (hn : n ≤ 1000000000) (hB : B ≤ cb) :
    Calls Try.prog 47 #[.pointer (some ⟨cb, 0, none⟩)] w (CByteR L A n c cb a bad w) := by
  obtain ⟨i0, hi0, hz0, hz1, hz2⟩ := info_parts infoListB
  have hcl := hC.1.lt
  have C61 := hide (many_any hC hS hi hn hB)
  have HI := hide hi
  have HS := hide hS
  clear hC hS hi
  unfold ManyR at C61
  go_enter Try.func47, Try.ntmps47
  go_wp2_with (fail)
  refine C61.out.mono ?_
  rintro e w2 ⟨r, a1, b1, rfl, htm, hC2, har, hK2⟩
  have S2 := hide (hK2.sl HS.out hB hB (by omega))
  have hw2 : w.heap.size ≤ w2.heap.size := hK2.size
  have hrb : r ≤ 1000000000 := by omega
  have HTM := hide htm
  have C2 := hide hC2
  have K2 := hide hK2
  clear htm hC2 hK2 HS C61
  go_wp2
  go_loopw [3, 4] (fun v nn wr => ∃ (i : Nat) (acc : List Int) (a' : Nat) (b' : Bool) (A1 : Option Addr) (c1 : Nat), Going IsByte (curV L a1 b1) r i acc (curV L a' b') ∧ a' + (r - i) ≤ n ∧ (∀ d ∈ acc, 0 ≤ d ∧ d ≤ 255) ∧ v = .slice A1 i c1 ∧ nn = .int .i64 ((r : Int) - (i : Int)) ∧ CR L A n c wr cb a' b' ∧ wr.ownsRow w.heap.size 5 1 (.slice A1 i c1) i (acc.map (Value.int .u8)) ∧ Keep cb cb w wr ∧ Sl wr B A n (L.map (Value.int .i64))) (fun _ nn _ => (intOf nn).toNat)
  case atStart => exact ⟨0, [], a1, b1, none, 0, Going.start _ _, by omega, by simp, rfl, by simp, C2.out, own_nil, K2.out, S2.out⟩
  case round =>
    obtain ⟨i, acc, a', b', A1, c1, hgo, hai, hfa, rfl, rfl, hC, hO, hK, hS⟩ := hrel
    have hlen := hgo.1
    have hir : i ≤ r := hgo.2.1
    have HLN := hide hlen
    have HGO := hide hgo
    have HFA := hide hfa
    clear hgo hfa hlen
    by_cases hlt : i < r
    · have d1 : (0 : Int) < (r : Int) - (i : Int) := by omega
      have d2 : decide ((0 : Int) < (r : Int) - (i : Int)) = true := by simpa using d1
      have C44 := hide (take_any hC hS HI.out hn hB)
      have hws := hK.size
      have O1 := hide hO
      have S1 := hide hS
      have K1 := hide hK
      clear hC hO hS hK
      unfold TakeR at C44
      have hqo : ∀ q, (Value.slice A1 i c1).ownBlock = some q → w.heap.size ≤ q ∧ q < wr.heap.size := fun q hq => O1.out.lt q hq
      go_upto_region 6 with (go_at_call 44; refine C44.out.mono ?_; rintro e w3 ⟨x, a3, b3, rfl, hfx, htk, hC3, hadv, hK3⟩)
      have O3 := hide (hK3.owns O1.out (fun q hq => by have := hqo q hq; omega))
      have S3 := hide (hK3.sl S1.out hB hB (by omega))
      have K3 := hide (K1.out.trans hK3)
      have hw3 := hK3.size
      have T3 := hide htk
      have A3 := hide hadv
      have C3 := hide hC3
      clear hfx htk hC3 hadv hK3
      by_cases hx1 : 0 ≤ x
      rotate_left
      · have dx1 : decide (x < 0) = true := by simp; omega
        have HNX := hide (show ¬ (0 ≤ x ∧ x ≤ 255) from fun c => hx1 c.1)
        have c2 : w3.cell? ⟨cb, 2, none⟩ = some (.bool b3) := C3.out.1.cell 2
        have f2 := C3.out.1.frozen 2
        have hf := TookL.wrong HTM.out HGO.out hlt T3.out HNX.out
        have HF := hide hf
        clear hf
        go_wp2
        go_ret
        exact ⟨[], none, 0, a3, true, rfl, HF.out, by simp, by simp, ⟨by simpa using C3.out.1.set_ 2 (.bool true), C3.out.2⟩, own_nil, K3.out.set_tb 2 _⟩
      by_cases hx2 : x ≤ 255
      rotate_left
      · have dx1 : decide (x < 0) = false := by simp; omega
        have dx2 : decide (255 < x) = true := by simp; omega
        have HNX := hide (show ¬ (0 ≤ x ∧ x ≤ 255) from fun c => hx2 c.2)
        have c2 : w3.cell? ⟨cb, 2, none⟩ = some (.bool b3) := C3.out.1.cell 2
        have f2 := C3.out.1.frozen 2
        have hf := TookL.wrong HTM.out HGO.out hlt T3.out HNX.out
        have HF := hide hf
        clear hf
        go_wp2
        go_ret
        exact ⟨[], none, 0, a3, true, rfl, HF.out, by simp, by simp, ⟨by simpa using C3.out.1.set_ 2 (.bool true), C3.out.2⟩, own_nil, K3.out.set_tb 2 _⟩
      have dx1 : decide (x < 0) = false := by simp; omega
      have dx2 : decide (255 < x) = false := by simp; omega
      go_wp2_with (at_builtin; refine wpList_append_sl _ rfl (.tmp 23) (.tmp 26) 22 rfl w.heap.size 5 i0 (.int .u8 0) 1 Try.underlying22 hi0 hz0 hz1 hz2 rfl (.slice A1 i c1) i (acc.map (Value.int .u8)) rfl (O3.out.alloc _) (w3.heap.size + 1) (some ⟨w3.heap.size, 0, none⟩) 1 1 [.int .u8 x] rfl (Sl.one _ _ _) (by intro u hu; simp at hu; subst hu; rfl) (by simp only [maxLen]; omega) (by omega) (by simp; omega) ?_; intro v6 w6 hown6 hg6 hat6; obtain ⟨A2, c2, hv6, _, _⟩ := own_slice hown6; subst hv6)
      have C6 := hide (show CR L A n c w6 cb a3 b3 from ⟨wb_keep (C3.out.1.alloc _) hg6 (fun q hq => by have := hqo q hq; have := O3.out.lt q hq; omega), C3.out.2⟩)
      have K6 := hide ((K3.out.alloc _).grown hg6 (fun q hq => (O3.out.lt q hq).1))
      have S6 := hide (S3.out.below (((Below.refl B w3).alloc (by omega) _).grown hg6 (by simp; omega) (fun q hq => by have := (O3.out.lt q hq).1; omega)))
      have hadv := A3.out (by omega)
      have G6 := hide (HGO.out.step hlt (took_byte T3.out ⟨hx1, hx2⟩))
      have HAD := hide hadv
      have HO6 := hide hown6
      clear hown6 hg6 hat6 hadv
      go_roundw
      case rel => exact ⟨i + 1, acc ++ [x], a3, b3, A2, c2, G6.out, by have := HAD.out.1; omega, (by intro d hd; rcases List.mem_append.1 hd with hd | hd; (· exact HFA.out d hd); (· obtain rfl : d = x := (by simpa using hd); exact ⟨hx1, hx2⟩)), rfl, by first | rfl | (congr 1; omega), C6.out, by simpa using HO6.out, K6.out, S6.out⟩
      case measure => simp [intOf]; omega
    · have hre : i = r := by omega
      subst hre
      have d1 : ¬ (0 : Int) < (i : Int) - (i : Int) := by omega
      have HC := hide hC
      have HO := hide hO
      have HK := hide hK
      have hf := TookL.many HTM.out HGO.out
      have HF := hide hf
      clear hC hO hK hS hf
      go_wp2
      go_ret
      exact ⟨acc, A1, c1, a', b', by rw [HLN.out]; rfl, HF.out, HFA.out, by have := HLN.out; omega, HC.out, by rw [HLN.out]; exact HO.out, HK.out⟩
end Go.Proofs.Ytlcgpldngooekaa
