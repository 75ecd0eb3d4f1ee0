/- The reference's numbers of a text: the contract. -/
import Derived.Test.YtlcgpldngooekaaRN
namespace Go.Proofs.Ytlcgpldngooekaa
open Go.RowKit
set_option linter.unusedVariables false
set_option maxRecDepth 100000 in
set_option maxHeartbeats 1000000 in
theorem rbytes_any (A : Option Addr) (n c B : Nat) (l : List Int) (w : World) (hS : Sl w B A n (l.map (Value.int .u8))) (hb : Bytes l) (hB : B ≤ w.heap.size) (hn : n ≤ 1000000000) : Calls Try.prog 55 #[.slice A n c] w (NumsR ((l.length : Int) :: l) w) := by
  obtain ⟨i0, hi0, hz0, hz1, hz2⟩ := info_parts infoListI
  have hl := hS.len
  have HS := hide hS
  have HL := hide hl
  have HB := hide hb
  clear hS hl hb
  go_enter Try.func55, Try.ntmps55
  go_wp2
  go_loopw [3, 11] (fun v i wr => ∃ (j : Nat) (A1 : Option Addr) (c1 : Nat), j ≤ n ∧ i = .int .i64 j ∧ v = .slice A1 (1 + j) c1 ∧ wr.ownsRow w.heap.size 2 1 (.slice A1 (1 + j) c1) (1 + j) (.int .i64 n :: (l.take j).map (Value.int .i64)) ∧ Below w.heap.size w wr) (fun _ i _ => n - (intOf i).toNat)
  case atStart => exact ⟨0, some ⟨w.heap.size, 0, none⟩, 1, Nat.zero_le _, rfl, rfl, by simpa using own_row_h (w := w) (l := [.int .i64 n]) (t := 2) rfl (Nat.le_refl _) rfl (by simp [maxLen]), (Below.refl _ w).alloc (Nat.le_refl _) _⟩
  case round =>
    obtain ⟨j, A1, c1, hj, rfl, rfl, hO, hbl⟩ := hrel
    have HO := hide hO
    have HBL := hide hbl
    have hsz := hbl.size
    clear hO hbl
    by_cases hlt : j < n
    · obtain ⟨b, o, z, hA, hbb, hz, hcell⟩ := (HS.out.below (HBL.out.mono hB)).int hlt
      subst hA
      have hzb := HB.out z (List.mem_of_getElem? hz)
      have hz1' : 0 ≤ z := hzb.1
      have hz2' : z ≤ 255 := hzb.2
      have HZ := hide hz
      have hltI : (j : Int) < (n : Int) := by omega
      clear hzb hz
      go_wp2_with (at_builtin; refine wpList_append_sl _ rfl (.tmp 15) (.tmp 18) 33 rfl w.heap.size 2 i0 (.int .i64 0) 8 Try.underlying33 hi0 hz0 hz1 hz2 rfl (.slice A1 (1 + j) c1) (1 + j) (.int .i64 n :: (l.take j).map (Value.int .i64)) rfl (HO.out.alloc _) (wr.heap.size + 1) (some ⟨wr.heap.size, 0, none⟩) 1 1 [.int .i64 z] rfl (Sl.one _ _ _) (by intro u hu; simp at hu; subst hu; rfl) (by simp only [maxLen]; omega) (by omega) (by simp; omega) ?_; intro v6 w6 hown6 hg6 hat6; obtain ⟨A2, c2, hv6, _, _⟩ := own_slice hown6; subst hv6)
      have B6 := hide ((HBL.out.alloc (by omega) _).grown hg6 (by simp; omega) (fun q hq => (HO.out.lt q hq).1))
      have O6 := hide hown6
      clear hown6 hg6 hat6 hcell
      go_roundw
      case rel => exact ⟨j + 1, A2, c2, by omega, by first | rfl | go_num, by first | rfl | (congr 1; omega), by rw [take_snoc HZ.out]; have := O6.out; simpa [Nat.add_assoc] using this, B6.out⟩
      case measure => simp [intOf]; omega
    · have hje : j = n := by omega
      subst hje
      have hd : ¬ (j : Int) < (j : Int) := by omega
      go_wp2
      go_ret
      have hle : ((l.length : Int) :: l).length = 1 + j := by have := HL.out; simp; omega
      refine ⟨A1, c1, by rw [hle]; rfl, ?_, HBL.out⟩
      rw [hle]
      have hx : ((l.length : Int) :: l).map (Value.int .i64) = .int .i64 j :: (l.take j).map (Value.int .i64) := by
        rw [List.take_of_length_le (by have := HL.out; omega)]
        simp [HL.out]
      rw [hx]; exact HO.out
end Go.Proofs.Ytlcgpldngooekaa
