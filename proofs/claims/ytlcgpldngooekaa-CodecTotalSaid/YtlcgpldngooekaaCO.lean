/- A cursor over the numbers of a code: the contract. -/
import Derived.Test.YtlcgpldngooekaaCC
namespace Go.Proofs.Ytlcgpldngooekaa
open Go.RowKit
set_option linter.unusedVariables false
theorem numsF_ints {l : List Int} (hl : ∀ x ∈ l, 0 ≤ x ∧ x ≤ 255) : ∀ (f : Nat) (a : Int) (xs : List Int), numsF f l a = some xs → Ints xs
  | 0, a, xs, h => by
    unfold numsF at h
    split at h
    · cases h
    · injection h with h; subst h; intro n hn; cases hn
  | f + 1, a, xs, h => by
    by_cases hlt : a < l.length
    · rcases readV_only (a := a) hl with hv | ⟨k, m, x, hk, hv, hm1, hm2, _, hx1, hx2⟩
      · rw [numsF_bad hlt (by rw [hv])] at h; cases h
      · rw [numsF_step hlt hv] at h
        rcases hn : numsF f l ((k : Int) + (m : Int)) with _ | ys
        · rw [hn] at h; cases h
        · rw [hn] at h
          injection h with h; subst h
          intro n hn2
          rcases List.mem_cons.1 hn2 with rfl | hn2
          · exact ⟨hx1, hx2⟩
          · exact numsF_ints hl f _ ys hn n hn2
    · rw [numsF_end hlt] at h
      injection h with h; subst h; intro n hn; cases hn
def OpenR (l : List Int) (w : World) (e : Ending) (w' : World) : Prop :=
  ∃ (A : Option Addr) (n c cb : Nat) (L : List Int) (ok : Bool), e = .returned (.tuple #[.pointer (some ⟨cb, 0, none⟩), .bool ok]) ∧ ((ok = true ∧ numsF l.length l 0 = some L) ∨ (ok = false ∧ numsF l.length l 0 = none)) ∧
    CR L A n c w' cb 0 false ∧ Sl w' cb A n (L.map (Value.int .i64)) ∧ Ints L ∧ n ≤ l.length ∧ w.heap.size ≤ cb ∧ Below w.heap.size w w'
set_option maxRecDepth 100000 in
set_option maxHeartbeats 1000000 in
theorem open_any (A : Option Addr) (n c : Nat) (l : List Int) (w : World) (hS : Sl w w.heap.size A n (l.map (Value.int .u8))) (hb : Bytes l) (hn : n ≤ 1000000) :
    Calls Try.prog 43 #[.slice A n c] w (OpenR l w) := by
  have hd : decide ((1048576 : Int) < (n : Int)) = false := by simp; omega
  have C23 := hide (rnums_any A n c l w hS hb (by omega))
  have HB := hide hb
  clear hS hb
  unfold NumsEnd at C23
  go_enter Try.func43, Try.ntmps43
  go_wp2_with (fail)
  refine C23.out.mono ?_
  rcases hv : numsF l.length l 0 with _ | L
  · rw [numsV_none hv]
    rintro e w1 ⟨A1, n1, c1, rfl, hs, hn1, hbl⟩
    have HS := hide hs
    have HV := hide hv
    have HBL := hide hbl
    have hsz := hbl.size
    clear hs hv hbl
    go_wp2
    go_ret2
    exact ⟨A1, n1, c1, w1.heap.size, [], false, rfl, .inr ⟨rfl, HV.out⟩, ⟨Blk.new _ _ _, Nat.zero_le _⟩, HS.out.alloc (Nat.le_refl _) _, (by intro x hx; cases hx), hn1, hsz, HBL.out.alloc (by omega) _⟩
  · rw [numsV_some hv]
    rintro e w1 ⟨A1, n1, c1, rfl, hs, hn1, hbl⟩
    have HS := hide hs
    have HV := hide hv
    have HBL := hide hbl
    have hsz := hbl.size
    clear hs hv hbl
    go_wp2
    go_ret2
    exact ⟨A1, n1, c1, w1.heap.size, L, true, rfl, .inl ⟨rfl, HV.out⟩, ⟨Blk.new _ _ _, Nat.zero_le _⟩, HS.out.alloc (Nat.le_refl _) _, numsF_ints HB.out _ _ _ HV.out, hn1, hsz, HBL.out.alloc (by omega) _⟩
end Go.Proofs.Ytlcgpldngooekaa
