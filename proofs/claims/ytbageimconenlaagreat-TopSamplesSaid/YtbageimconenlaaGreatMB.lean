/- The tape once more, with what it gives. -/
import Derived.Test.YtbageimconenlaaGreatMa
namespace Go.Proofs.YtbageimconenlaaGreat
open Go.RowKit
set_option linter.unusedVariables false
/-- what the tape gives, and where it stands then -/
def drawV (l : List Int) (k : Nat) (m : Int) : Int := match l[k]? with | some x => x % m | none => 0
def drawA (l : List Int) (k : Nat) : Nat := match l[k]? with | some _ => k + 1 | none => k
theorem drawV_bd (l : List Int) (k : Nat) {m : Int} (hm : 1 ≤ m) : 0 ≤ drawV l k m ∧ drawV l k m < m := by
  unfold drawV
  split
  · exact ⟨Int.emod_nonneg _ (by omega), Int.emod_lt_of_pos _ (by omega)⟩
  · omega
def NextT2 (A : Option Addr) (n c g : Nat) (m : Int) (l : List Int) (k : Nat) (w : World) (e : Ending) (w' : World) : Prop := e = .returned (.int .i64 (drawV l k m)) ∧ TapeB w' g A n c (drawA l k) ∧ Keep g g w w'
set_option maxRecDepth 100000 in
set_option maxHeartbeats 1000000 in
theorem tape_next3 (A : Option Addr) (n c g at_ : Nat) (l : List Int) (m : Int) (w : World) (hT : TapeB w g A n c at_) (hS : Sl w w.heap.size A n (l.map (Value.int .i64))) (hB : 0 < n → ∀ b o, A = some ⟨b, o, none⟩ → b ≠ g) (hn : n ≤ 9223372036854775807) (hm : 1 ≤ m) (hm2 : m ≤ 9223372036854775807) :
    Calls Tryz.prog 12 #[.pointer (some ⟨g, 0, none⟩), .int .i64 m] w (NextT2 A n c g m l at_ w) := by
  obtain ⟨hC, ha⟩ := hT
  have c0 : w.cell? ⟨g, 0, none⟩ = some (.slice A n c) := hC.cell 0
  have c1 : w.cell? ⟨g, 1, none⟩ = some (.int .i64 at_) := hC.cell 1
  have f1 := hC.frozen 1
  have HC := hide hC
  by_cases hlt : at_ < n
  · obtain ⟨b, o, x, hA, hb, hx, hcell⟩ := hS.int hlt
    subst hA
    have hne : b ≠ g := hB (by omega) b o rfl
    have hd : decide ((n : Int) ≤ (at_ : Int)) = false := by simp; omega
    have HCE := hide hcell
    have C6 := hide (fun (w1 : World) => made_mod' x m hm hm2 w1)
    have h0 := Int.emod_nonneg x (b := m) (by omega)
    have h1 := Int.emod_lt_of_pos x (b := m) (by omega)
    have hNV : drawV l at_ m = x % m ∧ drawA l at_ = at_ + 1 := by unfold drawV drawA; rw [hx]; exact ⟨rfl, rfl⟩
    unfold NextT2
    rw [hNV.1, hNV.2]
    clear hNV
    unfold RetI at C6
    generalize x % m = v at *
    clear hS hC hx hcell hm
    go_enter Tryz.func12, Tryz.ntmps12
    go_upto_region 1 with (fail)
    go_quiet (fail)
    go_upto_region 4 with (fail)
    have C1 := hide (HC.out.drewN nq)
    have K1 := hide (show Keep g g w (w.drewN nq) from ⟨rfl, rfl, rfl, Nat.le_refl _, fun _ _ _ _ => rfl⟩)
    have E1 : (w.drewN nq).cell? ⟨b, o + at_, none⟩ = some (.int .i64 x) := HCE.out
    clear c0 c1 f1 HC HCE hd
    have C2 := hide (show Blk ((w.drewN nq).setCell ⟨g, 1, none⟩ (.int .i64 ((at_ : Int) + 1))) g 124 #[.slice (some ⟨b, o, none⟩) n c, .int .i64 ((at_ + 1 : Nat) : Int)] by simpa using C1.out.set_ 1 (.int .i64 ((at_ : Int) + 1)))
    have K2 := hide (K1.out.set_tb 1 (.int .i64 ((at_ : Int) + 1)))
    have E2 : ((w.drewN nq).setCell ⟨g, 1, none⟩ (.int .i64 ((at_ : Int) + 1))).cell? ⟨b, o + at_, none⟩ = some (.int .i64 x) := (World.cell?_setCell_other _ _ _ _ (fun e => hne (by injection e with e1 _ _; exact e1.symm))).trans E1
    clear E1 C1 K1
    generalize ((w.drewN nq).setCell ⟨g, 1, none⟩ (.int .i64 ((at_ : Int) + 1))) = w2 at *
    have c0 : w2.cell? ⟨g, 0, none⟩ = some (.slice (some ⟨b, o, none⟩) n c) := C2.out.cell 0
    have c1 : w2.cell? ⟨g, 1, none⟩ = some (.int .i64 ((at_ : Int) + 1)) := C2.out.cell 1
    have hab : (at_ : Int) < (n : Int) := by omega
    go_quiet ((go_at_call 6; exact Calls.quiet_of_same ((C6.out _).mono fun e w' h => ⟨h.1, h.2.symm⟩)))
    go_wp2
    go_ret
    exact ⟨rfl, ⟨C2.out.drewN _, by omega⟩, K2.out.drewN _⟩
  · have hd : decide ((n : Int) ≤ (at_ : Int)) = true := by simp; omega
    have hx : l[at_]? = none := by rw [List.getElem?_eq_none_iff]; have := hS.1; simp at this; omega
    have hNV : drawV l at_ m = 0 ∧ drawA l at_ = at_ := by unfold drawV drawA; rw [hx]; exact ⟨rfl, rfl⟩
    unfold NextT2
    rw [hNV.1, hNV.2]
    clear hNV hx
    clear hS hC
    go_enter Tryz.func12, Tryz.ntmps12
    go_upto_region 1 with (fail)
    go_quiet (fail)
    go_wp2
    go_ret
    exact ⟨rfl, ⟨HC.out.drewN nq, ha⟩, ⟨rfl, rfl, rfl, Nat.le_refl _, fun _ _ _ _ => rfl⟩⟩
end Go.Proofs.YtbageimconenlaaGreat
