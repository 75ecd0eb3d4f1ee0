/- A list of numbers written to a tape: the contract. -/
import Derived.Test.YtlcgpldngooekaaVG
import Derived.StillTailTactics
namespace Go.Proofs.Ytlcgpldngooekaa
open Go.RowKit
set_option linter.unusedVariables false
theorem TW.drew {base tb c : Nat} {xs : List Int} {w : World} {A : Option Addr} (h : TW base tb xs w A c) : TW base tb xs w.drew A c := ⟨h.1.drew, World.ownsRow.drew h.2.1, h.2.2.1, h.2.2.2⟩
set_option maxRecDepth 100000 in
set_option maxHeartbeats 2000000 in
theorem listI_wr {base tb c g o B kd : Nat} {xs ds : List Int} {A Ad : Option Addr} {w : World} {tg : TypeId} {cs : Array Value} (hT : TW base tb xs w A c) (hG : Blk w g tg cs) (hx : cs[o]? = some (.slice Ad ds.length kd)) (hS : Sl w B Ad ds.length (ds.map (Value.int .i64))) (hd : ∀ d ∈ ds, Fit d) (hlen : xs.length ≤ 10000000) (hdl : ds.length ≤ 1000000) (hgt : g ≠ tb) (hgb : g < base) (hB : B ≤ tb) :
    Calls Try.prog 64 #[.pointer (some ⟨tb, 0, none⟩), .pointer (some ⟨g, o, none⟩), .func (.func 57) #[.pointer (some ⟨tb, 0, none⟩)] #[]] w (IntW base tb xs A c (writeL ((ds.length : Int) :: ds)) w) := by
  have hglt := hG.lt
  have htlt := hT.1.lt
  have htb := hT.2.2.1
  have hbw := hT.2.2.2
  have hqo : ∀ q, (Value.slice A xs.length c).ownBlock = some q → base ≤ q ∧ q < w.heap.size := fun q hq => hT.2.1.lt q hq
  have g0 : w.cell? ⟨g, o, none⟩ = some (.slice Ad ds.length kd) := (hG.cell o).trans hx
  generalize hN : ds.length = N at *
  have HN := hide hN
  have hNb : (N : Int) ≤ 1000000 := by omega
  have qX : Blk (w.alloc (.cells #[.int .i64 N] 2)) w.heap.size 2 #[.int .i64 N] := Blk.new _ _ _
  have C67 := hide (fun (w1 : World) (lo hi : Int) (t : TW base tb xs w1 A c) (x : Blk w1 w.heap.size 2 #[.int .i64 N]) => within_wr (x := (N : Int)) lo hi t x (o := 0) rfl ⟨by omega, by omega⟩ (by omega))
  have T1 := hide (hT.alloc (.cells #[.int .i64 N] 2))
  have X1 := hide qX
  have G1 := hide (hG.alloc (.cells #[.int .i64 N] 2))
  have S1 := hide (hS.alloc (by omega) (.cells #[.int .i64 N] 2))
  have K1 := hide ((MovT.refl tb w (.slice A xs.length c)).alloc (.cells #[.int .i64 N] 2))
  have HX := hide hx
  have HD := hide hd
  clear hT hG hx hS qX hN hd
  unfold IntW at C67
  go_enter Try.func64, Try.ntmps64
  go_upto_region 1 with (fail)
  generalize (w.alloc (.cells #[.int .i64 N] 2)) = w1 at *
  have t0 : w1.cell? ⟨tb, 0, none⟩ = some (.slice A xs.length c) := T1.out.1.cell 0
  have t1 : w1.cell? ⟨tb, 1, none⟩ = some (.int .i64 0) := T1.out.1.cell 1
  go_still_tail 11, (by kernel_rfl)
  change wpList _ _ _ _ _ w1.drew
  have T1d := hide T1.out.drew
  have X1d := hide X1.out.drew
  have KD := hide ((MovT.refl tb w1 (.slice A xs.length c)).drew)
  generalize w1.drew = wd at *
  go_upto_region 2 with (go_at_call 67; refine (C67.out _ _ _ ?_ ?_).mono ?_; (· exact T1d.out); (· exact X1d.out); rintro e w2 ⟨rfl, A2, c2, hT2, hm2⟩)
  have hwr0 : IntKind.i64.wrap (xs.length : Int) = (xs.length : Int) := by
    rw [show IntKind.i64.wrap (xs.length : Int) = wrap64 (xs.length : Int) from IntWalk.i64_left _]
    exact IntWalk.wrap64_in _ ⟨by omega, by omega⟩
  simp only [hwr0]
  clear hwr0
  have M2 := hide (KD.out.trans hm2)
  have K2 := hide (K1.out.trans (KD.out.trans hm2))
  have G2 := hide ((KD.out.trans hm2).blk G1.out hgt (fun k hk => by have := hqo k hk; omega))
  have S2 := hide ((KD.out.trans hm2).sl S1.out hB (fun k hk => by have := hqo k hk; omega) (by have := K1.out.size; omega))
  have T2 := hide hT2
  have t2 : w2.cell? ⟨tb, 2, none⟩ = some (.bool false) := hT2.1.cell 2
  have g1 : w2.cell? ⟨g, o, none⟩ = some (.slice Ad N kd) := (G2.out.cell o).trans HX.out
  have hs2 := K2.out.size
  clear t0 t1 hT2 hm2 T1 X1 G1 S1 T1d X1d C67 g0
  go_wp2
  clear t2 g1
  go_loopw [35] (fun i wr => ∃ (j : Nat) (A' : Option Addr) (c' : Nat), j ≤ N ∧ i = .int .i64 j ∧ TW base tb (xs ++ codeN N ++ writeL (ds.take j)) wr A' c' ∧ MovT tb w wr (.slice A xs.length c) (.slice A' (xs ++ codeN N ++ writeL (ds.take j)).length c') ∧ Blk wr g tg cs ∧ Sl wr B Ad N (ds.map (Value.int .i64))) (fun i _ => N - (intOf i).toNat)
  case atStart => exact ⟨0, A2, c2, Nat.zero_le _, rfl, by simpa [writeL] using T2.out, by simpa [writeL] using K2.out, G2.out, S2.out⟩
  case round =>
    obtain ⟨j, A', c', hj, rfl, hT, hK, hG, hS⟩ := hrel
    have hsz := hK.size
    have HK := hide hK
    clear hK
    by_cases hlt : j < N
    · obtain ⟨b, o', z, hA, hbb, hz, hcell⟩ := hS.int hlt
      subst hA
      have hfz := HD.out z (List.mem_of_getElem? hz)
      have hlb : (xs ++ codeN N ++ writeL (ds.take j)).length ≤ 1000000000 := by
        have h1 := (codeN_len (N : Int)).1
        have h2 := (writeL_len (ds.take j)).1
        have h3 : (ds.take j).length ≤ j := by simp; omega
        simp only [List.length_append]; omega
      have hq : ∀ q, (Value.slice A' (xs ++ codeN N ++ writeL (ds.take j)).length c').ownBlock = some q → base ≤ q ∧ q < wr.heap.size := fun q hq => hT.2.1.lt q hq
      have C57 := hide (int_wr (x := z) (hT.alloc (.cells #[.int .i64 z] 2)) (Blk.new wr 2 #[.int .i64 z]) (o := 0) rfl hfz hlb)
      have g1 : wr.cell? ⟨g, o, none⟩ = some (.slice (some ⟨b, o', none⟩) N kd) := (hG.cell o).trans HX.out
      have G3 := hide (hG.alloc (.cells #[.int .i64 z] 2))
      have S3 := hide (hS.alloc (by omega) (.cells #[.int .i64 z] 2))
      have K3 := hide (HK.out.alloc (.cells #[.int .i64 z] 2))
      have HZ := hide hz
      have hltI : (j : Int) < (N : Int) := by omega
      have hjI : (0 : Int) ≤ (j : Int) := by omega
      clear hT hG hS hz hfz HK
      unfold IntW at C57
      go_wp2_with (go_at_call 57; refine C57.out.mono ?_; rintro e w4 ⟨rfl, A4, c4, hT4, hm4⟩; have T4 := hide hT4; have M4 := hide hm4; clear hT4 hm4)
      have hqa : ∀ k, (Value.slice A' (xs ++ codeN N ++ writeL (ds.take j)).length c').ownBlock = some k → k ≠ g := fun k hk => by have := hq k hk; omega
      have G4 := hide (M4.out.blk G3.out hgt hqa)
      have S4 := hide (M4.out.sl S3.out hB (fun k hk => by have := hq k hk; omega) (by simp; omega))
      have K4 := hide (K3.out.trans M4.out)
      have hwl : xs ++ codeN N ++ writeL (ds.take j) ++ codeN z = xs ++ codeN N ++ writeL (ds.take (j + 1)) := by rw [take_snoc HZ.out, writeL_snoc, List.append_assoc (xs ++ codeN N)]
      have HWL := hide hwl
      clear hwl hcell g1
      go_roundw
      case rel => exact ⟨j + 1, A4, c4, by omega, by first | rfl | go_num, by rw [← HWL.out]; exact T4.out, by rw [← HWL.out]; exact K4.out, G4.out, S4.out⟩
      case measure => simp [intOf]; omega
    · have hje : j = N := by omega
      have hd1 : ¬ (j : Int) < (N : Int) := by omega
      have hwl : xs ++ codeN N ++ writeL (ds.take j) = xs ++ writeL ((N : Int) :: ds) := by
        rw [List.take_of_length_le (by have := HN.out; omega), writeL_cons, List.append_assoc]
      rw [hwl] at hT
      have HK' := hide HK.out
      have HT := hide hT
      have HWL := hide hwl
      clear hT hG hS hwl
      go_wp2
      go_end0
      exact ⟨rfl, A', c', HT.out, by rw [← HWL.out]; exact HK'.out⟩
end Go.Proofs.Ytlcgpldngooekaa
