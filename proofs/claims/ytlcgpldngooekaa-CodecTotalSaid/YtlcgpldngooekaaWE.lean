/- The code of a command: the contract. -/
import Derived.Test.YtlcgpldngooekaaWC
import Derived.Test.YtlcgpldngooekaaTD
namespace Go.Proofs.Ytlcgpldngooekaa
open Go.RowKit
set_option linter.unusedVariables false
theorem own_base {w : World} {base base' e k n : Nat} {v : Value} {xs : List Value} (h : w.ownsRow base e k v n xs) (hb : base' ≤ base) : w.ownsRow base' e k v n xs := by
  refine ⟨h.1, ?_⟩
  rcases h.2 with hn | ⟨q, cap, cur, hv, hbg, hgg, rest⟩
  · exact .inl hn
  · exact .inr ⟨q, cap, cur, hv, Nat.le_trans hb hbg, hgg, rest⟩
theorem own_none (w : World) (base : Nat) : w.ownsRow base 5 1 (.slice none 0 0) 0 [] := ⟨rfl, .inl ⟨rfl, rfl⟩⟩
theorem MovT.below0 {tb B : Nat} {a b : World} {v v' : Value} (x : MovT tb a b v v') (h1 : B ≤ tb) (h2 : ∀ k, v.ownBlock = some k → B ≤ k) (h3 : B ≤ a.heap.size) : Below B a b := x.below (Below.refl B a) h1 h2 h3
theorem wrote_any {base tb c : Nat} {xs : List Int} {A : Option Addr} {w : World} (hT : TW base tb xs w A c) (hl : xs.length ≤ 1048576) :
    Calls Try.prog 48 #[.pointer (some ⟨tb, 0, none⟩)] w (fun e w' => w' = w ∧ e = .returned (.tuple #[.slice A xs.length c, .int .i64 0])) := by
  have t0 : w.cell? ⟨tb, 0, none⟩ = some (.slice A xs.length c) := hT.1.cell 0
  have hd : decide ((1048576 : Int) < (xs.length : Int)) = false := by simp; omega
  generalize hn : xs.length = n at *
  go_enter Try.func48, Try.ntmps48
  go_wp2
  go_ret2
  exact ⟨rfl, rfl⟩
set_option maxRecDepth 100000 in
set_option maxHeartbeats 2000000 in
theorem enc_any (v : Value) (x : CmdD) (B : Nat) (w : World) (h : HoldsC w B v x) (hok : x.Ok) (hB : B ≤ w.heap.size) (h1 : x.ds.length ≤ 2000) (h2 : x.bs.length ≤ 2000) :
    Calls Try.prog 31 #[v] w (CodeR (writeL x.flat) w) := by
  obtain ⟨A1, c1, A2, c2, rfl, hD, hE⟩ := h
  have hfl := x.flat_len
  have hwl := (writeL_len x.flat).1
  have hBw : Below w.heap.size w ((w.alloc (.cells #[.int .i64 x.n0, .int .i64 x.n1, .int .i64 x.n2, .int .i64 x.n3, .int .i64 x.n4, .int .i64 x.n5, .int .i64 x.n6, .int .i64 x.n7, .int .i64 x.n8, .int .i64 x.n9, .int .i64 x.n10, .int .i64 x.n11, .slice A1 x.ds.length c1, .int .i64 x.n13, .int .i64 x.n14, .int .i64 x.n15, .slice A2 x.bs.length c2] 45)).alloc (.cells #[.slice none 0 0, .int .i64 0, .bool false, .bool false] 78)) := ((Below.refl _ w).alloc (Nat.le_refl _) _).alloc (by simp) _
  have hT : TW (w.heap.size + 2) (w.heap.size + 1) [] ((w.alloc (.cells #[.int .i64 x.n0, .int .i64 x.n1, .int .i64 x.n2, .int .i64 x.n3, .int .i64 x.n4, .int .i64 x.n5, .int .i64 x.n6, .int .i64 x.n7, .int .i64 x.n8, .int .i64 x.n9, .int .i64 x.n10, .int .i64 x.n11, .slice A1 x.ds.length c1, .int .i64 x.n13, .int .i64 x.n14, .int .i64 x.n15, .slice A2 x.bs.length c2] 45)).alloc (.cells #[.slice none 0 0, .int .i64 0, .bool false, .bool false] 78)) none 0 :=
    ⟨Blk.new_at (by simp) _ _, own_none _ _, by omega, by simp⟩
  have C42 := hide (cmd_wr (B := B) hT ((Blk.new_at rfl 45 #[.int .i64 x.n0, .int .i64 x.n1, .int .i64 x.n2, .int .i64 x.n3, .int .i64 x.n4, .int .i64 x.n5, .int .i64 x.n6, .int .i64 x.n7, .int .i64 x.n8, .int .i64 x.n9, .int .i64 x.n10, .int .i64 x.n11, .slice A1 x.ds.length c1, .int .i64 x.n13, .int .i64 x.n14, .int .i64 x.n15, .slice A2 x.bs.length c2]).alloc (.cells #[.slice none 0 0, .int .i64 0, .bool false, .bool false] 78)) ((hD.alloc hB _).alloc (by simp; omega) _) ((hE.alloc hB _).alloc (by simp; omega) _) hok (by simp) h1 h2 (by omega) (by omega) (by omega))
  have HBW := hide hBw
  clear hD hE hT hBw
  unfold CmdD.cells
  go_enter Try.func31, Try.ntmps31
  go_wp2_with (fail)
  refine C42.out.mono ?_
  rintro e w1 ⟨rfl, A', c', hT, hM⟩
  have hb1 := HBW.out.trans (hM.below0 (B := w.heap.size) (by omega) (fun k hk => by cases hk) (by simp; omega))
  have HB1 := hide hb1
  have C48 := hide (wrote_any hT (by simp; omega))
  have HO := hide (own_base hT.2.1 (Nat.le_add_right w.heap.size 2))
  clear hT hM hb1 C42 HBW hok hfl hwl
  simp only [List.nil_append] at HO C48
  go_wp2_with (fail)
  refine C48.out.mono ?_
  rintro e w2 ⟨rfl, rfl⟩
  go_wp2
  go_ret2
  exact ⟨A', c', rfl, HO.out, HB1.out⟩
end Go.Proofs.Ytlcgpldngooekaa
