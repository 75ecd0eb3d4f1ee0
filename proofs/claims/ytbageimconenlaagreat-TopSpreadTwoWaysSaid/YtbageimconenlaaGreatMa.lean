/- Arguments made of arbitrary numbers; the next draw: the contracts. -/
import Derived.Test.YtbageimconenlaaGreatSt
namespace Go.Proofs.YtbageimconenlaaGreat
open Go.RowKit
set_option linter.unusedVariables false
theorem emod_of {a n : Int} (hn : 1 ≤ n) : a % n = if a.tmod n < 0 then a.tmod n + n else a.tmod n := by
  rw [Int.tmod_eq_emod (a := a) (b := n)]
  have h1 := Int.emod_lt_of_pos a (b := n) (by omega)
  have h0 := Int.emod_nonneg a (b := n) (by omega)
  by_cases h : 0 ≤ a ∨ n ∣ a
  · simp only [h, if_true]
    rw [if_neg (by omega)]; omega
  · simp only [h, if_false]
    rw [if_pos (by omega)]; omega
theorem tmod_bd (a b : Int) (hb : 1 ≤ b) : a.tmod b < b ∧ - b < a.tmod b := ⟨Int.tmod_lt_of_pos a (by omega), Int.lt_tmod_of_pos a (by omega)⟩
set_option maxRecDepth 100000 in
theorem made_mod (a n : Int) (hn : 1 ≤ n) (hn2 : n ≤ 9223372036854775807) (w : World) :
    Calls Tryz.prog 6 #[.int .i64 a, .int .i64 n] w fun e w' => e = .returned (.int .i64 (a % n)) ∧ w = w' := by
  have hb := tmod_bd a n hn
  have he := emod_of (a := a) hn
  have HE := hide he
  have hne : n ≠ 0 := by omega
  clear he hn
  rcases two (decide (a.tmod n < 0)) with h4 | h4
  · have h5 : a.tmod n < 0 := by simpa using h4
    go_enter Tryz.func6, Tryz.ntmps6
    go_wp2
    go_ret
    exact ⟨ret_int (by rw [HE.out, if_pos h5]), rfl⟩
  · have h5 : ¬ a.tmod n < 0 := by simpa using h4
    go_enter Tryz.func6, Tryz.ntmps6
    go_wp2
    go_ret
    exact ⟨ret_int (by rw [HE.out, if_neg (by omega)]), rfl⟩
/-- from w to w' all blocks but tb and g stand -/
structure Keep (tb g : Nat) (w w' : World) : Prop where
  os : w'.os = w.os
  tape : w'.tape = w.tape
  output : w'.output = w.output
  size : w.heap.size ≤ w'.heap.size
  block : ∀ k, k < w.heap.size → k ≠ tb → k ≠ g → w'.heap[k]? = w.heap[k]?
section
variable {tb g h : Nat} {a b c w w' : World}
theorem Keep.refl (tb g : Nat) (w : World) : Keep tb g w w := ⟨rfl, rfl, rfl, Nat.le_refl _, fun _ _ _ _ => rfl⟩
theorem Keep.trans (x : Keep tb g a b) (y : Keep tb g b c) : Keep tb g a c :=
  ⟨y.os.trans x.os, y.tape.trans x.tape, y.output.trans x.output, Nat.le_trans x.size y.size, fun k hk h1 h2 => (y.block k (Nat.lt_of_lt_of_le hk x.size) h1 h2).trans (x.block k hk h1 h2)⟩
/-- a local block h of the call's own may turn -/
theorem Keep.own (x : Keep tb g a b) (y : Keep tb h b c) (hh : a.heap.size ≤ h) : Keep tb g a c :=
  ⟨y.os.trans x.os, y.tape.trans x.tape, y.output.trans x.output, Nat.le_trans x.size y.size, fun k hk h1 h2 => (y.block k (Nat.lt_of_lt_of_le hk x.size) h1 (by omega)).trans (x.block k hk h1 h2)⟩
theorem Keep.alloc (x : Keep tb g a b) (o : Obj) : Keep tb g a (b.alloc o) :=
  ⟨x.os, x.tape, x.output, Nat.le_trans x.size (by simp), fun k hk h1 h2 => (Below.heap_alloc b o k (Nat.lt_of_lt_of_le hk x.size)).trans (x.block k hk h1 h2)⟩
theorem Keep.drew (x : Keep tb g a b) : Keep tb g a b.drew := ⟨x.os, x.tape, x.output, x.size, x.block⟩
theorem Keep.undrew (x : Keep tb g a.drew b) : Keep tb g a b := ⟨x.os, x.tape, x.output, x.size, x.block⟩
theorem Keep.set_tb (x : Keep tb g a b) (i : Nat) (u : Value) : Keep tb g a (b.setCell ⟨tb, i, none⟩ u) :=
  ⟨x.os, x.tape, x.output, by simpa [World.setCell] using x.size, fun k hk h1 h2 => (Below.heap_setCell b ⟨tb, i, none⟩ u k h1).trans (x.block k hk h1 h2)⟩
theorem Keep.set_g (x : Keep tb g a b) (i : Nat) (u : Value) : Keep tb g a (b.setCell ⟨g, i, none⟩ u) :=
  ⟨x.os, x.tape, x.output, by simpa [World.setCell] using x.size, fun k hk h1 h2 => (Below.heap_setCell b ⟨g, i, none⟩ u k h2).trans (x.block k hk h1 h2)⟩
theorem Keep.set_own (x : Keep tb g a b) (hh : a.heap.size ≤ h) (i : Nat) (u : Value) : Keep tb g a (b.setCell ⟨h, i, none⟩ u) :=
  ⟨x.os, x.tape, x.output, by simpa [World.setCell] using x.size, fun k hk h1 h2 => (Below.heap_setCell b ⟨h, i, none⟩ u k (by simp; omega)).trans (x.block k hk h1 h2)⟩
theorem Keep.below {B : Nat} (x : Keep tb g a b) {w : World} (y : Below B w a) (h1 : B ≤ tb) (h2 : B ≤ g) (h3 : B ≤ a.heap.size) : Below B w b :=
  y.trans ⟨x.os, x.tape, x.output, x.size, fun k hk => x.block k (by omega) (by omega) (by omega)⟩
theorem Keep.blk {t : TypeId} {cs : Array Value} (x : Keep tb g a b) {q : Nat} (y : Blk a q t cs) (h1 : q ≠ tb) (h2 : q ≠ g) : Blk b q t cs := (x.block q y.lt h1 h2).trans y
theorem Keep.sl {B n : Nat} {A : Option Addr} {xs : List Value} (x : Keep tb g a b) (y : Sl a B A n xs) (h1 : B ≤ tb) (h2 : B ≤ g) (h3 : B ≤ a.heap.size) : Sl b B A n xs := y.below ⟨x.os, x.tape, x.output, x.size, fun k hk => x.block k (by omega) (by omega) (by omega)⟩
theorem Keep.grown {row : Option Nat} (x : Keep tb g a b) (y : b.grownBy c row) (hr : ∀ k, row = some k → a.heap.size ≤ k) : Keep tb g a c :=
  ⟨y.os.trans x.os, y.tape.trans x.tape, y.output.trans x.output, Nat.le_trans x.size y.size, fun k hk h1 h2 => (y.block k (Nat.lt_of_lt_of_le hk x.size) (fun e => by have := hr k e.symm; omega)).trans (x.block k hk h1 h2)⟩
end
def nextV (l : List Int) (a m : Int) : Int × Int × Int :=
  if m < 1 ∨ a < 0 then (0, 0, 1) else
  match l[a.toNat]? with
  | none => (0, 0, 8)
  | some d => if 0 ≤ d ∧ d < m then (d, a + 1, 0) else (0, 0, 8)
def NextEnd (l : List Int) (a m : Int) (w : World) (e : Ending) (w' : World) : Prop := e = .returned (.tuple #[.int .i64 (nextV l a m).1, .int .i64 (nextV l a m).2.1, .int .i64 (nextV l a m).2.2]) ∧ w = w'
theorem next_at {l : List Int} {a m p q r : Int} {w : World} (h : nextV l a m = (p, q, r)) : NextEnd l a m w (.returned (.tuple #[.int .i64 p, .int .i64 q, .int .i64 r])) w := by
  unfold NextEnd; rw [h]; exact ⟨rfl, rfl⟩
set_option maxRecDepth 100000 in
theorem next_any (A : Option Addr) (n c B : Nat) (a m : Int) (l : List Int) (w : World) (h : Sl w B A n (l.map (Value.int .i64))) (hn : n ≤ 9223372036854775807) :
    Calls Tryz.prog 226 #[.slice A n c, .int .i64 a, .int .i64 m] w (NextEnd l a m w) := by
  have hl := h.len
  by_cases h1 : m < 1
  · have HN := hide (show nextV l a m = (0, 0, 1) from if_pos (.inl h1))
    clear h hl
    go_enter Tryz.func226, Tryz.ntmps226
    go_wp2
    go_ret3
    exact next_at HN.out
  · by_cases h2 : a < 0
    · have HN := hide (show nextV l a m = (0, 0, 1) from if_pos (.inr h2))
      clear h hl
      go_enter Tryz.func226, Tryz.ntmps226
      go_wp2
      go_ret3
      exact next_at HN.out
    · obtain ⟨k, rfl⟩ := Int.eq_ofNat_of_zero_le (a := a) (by omega)
      have hv : nextV l k m = match l[k]? with | none => (0, 0, 8) | some d => if 0 ≤ d ∧ d < m then (d, (k : Int) + 1, 0) else (0, 0, 8) := by
        unfold nextV; rw [if_neg (by omega)]; rfl
      by_cases h3 : k < n
      · obtain ⟨b, o, z, rfl, hbB, hz, hc⟩ := h.int h3
        rw [hz] at hv
        by_cases h4 : 0 ≤ z
        · by_cases h5 : z < m
          · have HN := hide (show nextV l k m = (z, (k : Int) + 1, 0) by rw [hv]; exact if_pos ⟨h4, h5⟩)
            clear h hl hv hz
            go_enter Tryz.func226, Tryz.ntmps226
            go_wp2
            go_ret3
            exact next_at HN.out
          · have HN := hide (show nextV l k m = (0, 0, 8) by rw [hv]; exact if_neg (fun c => h5 c.2))
            clear h hl hv hz
            go_enter Tryz.func226, Tryz.ntmps226
            go_wp2
            go_ret3
            exact next_at HN.out
        · have HN := hide (show nextV l k m = (0, 0, 8) by rw [hv]; exact if_neg (fun c => h4 c.1))
          clear h hl hv hz
          go_enter Tryz.func226, Tryz.ntmps226
          go_wp2
          go_ret3
          exact next_at HN.out
      · have hz : l[k]? = none := List.getElem?_eq_none (by omega)
        have HN := hide (show nextV l k m = (0, 0, 8) by rw [hv, hz])
        clear h hl hv hz
        go_enter Tryz.func226, Tryz.ntmps226
        go_wp2
        go_ret3
        exact next_at HN.out

def RetI (v : Int) (w : World) (e : Ending) (w' : World) : Prop := e = .returned (.int .i64 v) ∧ w = w'
theorem made_mod' (a n : Int) (hn : 1 ≤ n) (hn2 : n ≤ 9223372036854775807) (w : World) : Calls Tryz.prog 6 #[.int .i64 a, .int .i64 n] w (RetI (a % n) w) := made_mod a n hn hn2 w
theorem made_int (a n : Int) (hn : 1 ≤ n) (hn2 : n ≤ 9223372036854775807) (w : World) : Calls Tryz.prog 8 #[.int .i64 a, .int .i64 n] w (RetI (a % n) w) := by
  have C := hide (made_mod' a n hn hn2 w)
  have h0 := Int.emod_nonneg a (b := n) (by omega)
  have h1 := Int.emod_lt_of_pos a (b := n) (by omega)
  unfold RetI at C
  generalize a % n = v at *
  clear hn
  go_enter Tryz.func8, Tryz.ntmps8
  go_wp2_with (go_at_call 6; refine C.out.mono ?_; rintro e w' ⟨rfl, rfl⟩)
  go_ret
  exact ⟨rfl, rfl⟩
/-- the value made of a number -/
def valM (a : Int) : Int := if a % 8 = 0 then (a.tdiv 8) % 8193 - 4096 else if a % 8 = 1 then 4096 * (2 * ((a.tdiv 8) % 2) - 1) else (a.tdiv 8) % 13 - 6
theorem valM_bd (a : Int) : -4096 ≤ valM a ∧ valM a ≤ 4096 := by
  unfold valM
  split
  · omega
  · split
    · omega
    · omega
set_option maxRecDepth 100000 in
theorem made_value (a : Int) (ha : -9223372036854775808 ≤ a ∧ a ≤ 9223372036854775807) (w : World) : Calls Tryz.prog 10 #[.int .i64 a] w (RetI (valM a) w) := by
  have C0 := hide (fun (x : Int) => made_mod' x 8 (by omega) (by omega) w)
  have C1 := hide (fun (x : Int) => made_mod' x 8193 (by omega) (by omega) w)
  have C2 := hide (fun (x : Int) => made_mod' x 2 (by omega) (by omega) w)
  have C3 := hide (fun (x : Int) => made_mod' x 13 (by omega) (by omega) w)
  have hq1 : -9223372036854775808 ≤ a.tdiv 8 ∧ a.tdiv 8 ≤ 9223372036854775807 := by
    have h8 := Int.tdiv_eq_ediv (a := a) (b := 8)
    rw [show Int.sign 8 = 1 from rfl] at h8
    split at h8 <;> omega
  have HV := hide (show valM a = if a % 8 = 0 then (a.tdiv 8) % 8193 - 4096 else if a % 8 = 1 then 4096 * (2 * ((a.tdiv 8) % 2) - 1) else (a.tdiv 8) % 13 - 6 from rfl)
  unfold RetI at C0 C1 C2 C3
  by_cases h0 : a % 8 = 0
  · have K0 := hide (C0.out a)
    rw [h0] at K0
    have K1 := hide (C1.out (a.tdiv 8))
    have hb : 0 ≤ a.tdiv 8 % 8193 ∧ a.tdiv 8 % 8193 ≤ 8192 := by omega
    have HE := hide (show valM a = a.tdiv 8 % 8193 - 4096 by rw [HV.out, if_pos h0])
    generalize a.tdiv 8 % 8193 = r at *
    clear h0
    go_enter Tryz.func10, Tryz.ntmps10
    go_wp2_with (first | (go_at_call 6; with_reducible refine K0.out.mono ?_; rintro e w' ⟨rfl, rfl⟩) | (go_at_call 6; with_reducible refine K1.out.mono ?_; rintro e w' ⟨rfl, rfl⟩))
    go_ret
    exact ⟨ret_int HE.out.symm, rfl⟩
  · by_cases h1 : a % 8 = 1
    · have K0 := hide (C0.out a)
      rw [h1] at K0
      have K1 := hide (C2.out (a.tdiv 8))
      have hb : 0 ≤ a.tdiv 8 % 2 ∧ a.tdiv 8 % 2 ≤ 1 := by omega
      have HE := hide (show valM a = 4096 * (2 * (a.tdiv 8 % 2) - 1) by rw [HV.out, if_neg h0, if_pos h1])
      generalize a.tdiv 8 % 2 = r at *
      clear h0 h1
      go_enter Tryz.func10, Tryz.ntmps10
      go_wp2_with (first | (go_at_call 6; with_reducible refine K0.out.mono ?_; rintro e w' ⟨rfl, rfl⟩) | (go_at_call 6; with_reducible refine K1.out.mono ?_; rintro e w' ⟨rfl, rfl⟩))
      go_ret
      exact ⟨ret_int HE.out.symm, rfl⟩
    · have K0 := hide (C0.out a)
      have K1 := hide (C3.out (a.tdiv 8))
      have hb : 0 ≤ a.tdiv 8 % 13 ∧ a.tdiv 8 % 13 ≤ 12 := by omega
      have e0 : (a % 8 == 0) = false := by simpa using h0
      have e1 : (a % 8 == 1) = false := by simpa using h1
      have HE := hide (show valM a = a.tdiv 8 % 13 - 6 by rw [HV.out, if_neg h0, if_neg h1])
      generalize a.tdiv 8 % 13 = r at *
      generalize a % 8 = s at *
      clear h0 h1
      go_enter Tryz.func10, Tryz.ntmps10
      go_wp2_with (first | (go_at_call 6; with_reducible refine K0.out.mono ?_; rintro e w' ⟨rfl, rfl⟩) | (go_at_call 6; with_reducible refine K1.out.mono ?_; rintro e w' ⟨rfl, rfl⟩))
      go_ret
      exact ⟨ret_int HE.out.symm, rfl⟩
/-- a tape over the numbers l that stands at place at -/
def TapeB (w : World) (g : Nat) (A : Option Addr) (n c : Nat) (at_ : Nat) : Prop := Blk w g 124 #[.slice A n c, .int .i64 at_] ∧ at_ ≤ n
def MadeTape (A : Option Addr) (n c : Nat) (w : World) (e : Ending) (w' : World) : Prop := ∃ g, e = .returned (.pointer (some ⟨g, 0, none⟩)) ∧ w.heap.size ≤ g ∧ TapeB w' g A n c 0 ∧ Below w.heap.size w w'
theorem made_new (A : Option Addr) (n c : Nat) (w : World) : Calls Tryz.prog 9 #[.slice A n c] w (MadeTape A n c w) := by
  go_enter Tryz.func9, Tryz.ntmps9
  go_wp2
  go_ret
  exact ⟨w.heap.size, rfl, Nat.le_refl _, ⟨Blk.new _ _ _, Nat.zero_le _⟩, (Below.refl _ _).alloc (Nat.le_refl _) _⟩
def NextT (A : Option Addr) (n c g : Nat) (m : Int) (w : World) (e : Ending) (w' : World) : Prop := ∃ (v : Int) (at' : Nat), e = .returned (.int .i64 v) ∧ 0 ≤ v ∧ v < m ∧ TapeB w' g A n c at' ∧ Keep g g w w'
theorem Keep.drewN {tb g : Nat} {a b : World} (x : Keep tb g a b) (k : Nat) : Keep tb g a (b.drewN k) := ⟨x.os, x.tape, x.output, x.size, x.block⟩
set_option maxRecDepth 100000 in
set_option maxHeartbeats 1000000 in
theorem tape_next (A : Option Addr) (n c B g at_ : Nat) (l : List Int) (m : Int) (w : World) (hT : TapeB w g A n c at_) (hS : Sl w B A n (l.map (Value.int .i64))) (hB : B ≤ g) (hn : n ≤ 9223372036854775806) (hm : 1 ≤ m) (hm2 : m ≤ 9223372036854775807) :
    Calls Tryz.prog 12 #[.pointer (some ⟨g, 0, none⟩), .int .i64 m] w (NextT A n c g m w) := by
  obtain ⟨hC, ha⟩ := hT
  have c0 : w.cell? ⟨g, 0, none⟩ = some (.slice A n c) := hC.cell 0
  have c1 : w.cell? ⟨g, 1, none⟩ = some (.int .i64 at_) := hC.cell 1
  have f1 := hC.frozen 1
  have HC := hide hC
  by_cases hlt : at_ < n
  · obtain ⟨b, o, x, hA, hb, hx, hcell⟩ := hS.int hlt
    subst hA
    have hne : b ≠ g := by omega
    have hd : decide ((n : Int) ≤ (at_ : Int)) = false := by simp; omega
    have HCE := hide hcell
    have C6 := hide (fun (w1 : World) => made_mod' x m hm hm2 w1)
    have h0 := Int.emod_nonneg x (b := m) (by omega)
    have h1 := Int.emod_lt_of_pos x (b := m) (by omega)
    unfold RetI at C6
    generalize x % m = v at *
    clear hS hC hx hcell hm
    go_enter Tryz.func12, Tryz.ntmps12
    go_upto_region 1 with (fail)
    go_quiet (fail)
    go_upto_region 4 with (fail)
    have C1 := hide (HC.out.drewN nq)
    have K1 := hide (show Keep g g w (w.drewN nq) from ⟨rfl, rfl, rfl, Nat.le_refl _, fun _ _ _ _ => rfl⟩)
    have E1 : (w.drewN nq).cell? ⟨b, o + at_, none⟩ = some (.int .i64 x) := HCE.out
    clear c0 c1 f1 HC HCE hd
    have C2 := hide (show Blk ((w.drewN nq).setCell ⟨g, 1, none⟩ (.int .i64 ((at_ : Int) + 1))) g 124 #[.slice (some ⟨b, o, none⟩) n c, .int .i64 ((at_ + 1 : Nat) : Int)] by simpa using C1.out.set_ 1 (.int .i64 ((at_ : Int) + 1)))
    have K2 := hide (K1.out.set_tb 1 (.int .i64 ((at_ : Int) + 1)))
    have E2 : ((w.drewN nq).setCell ⟨g, 1, none⟩ (.int .i64 ((at_ : Int) + 1))).cell? ⟨b, o + at_, none⟩ = some (.int .i64 x) := (World.cell?_setCell_other _ _ _ _ (fun e => hne (by injection e with e1 _ _; exact e1.symm))).trans E1
    clear E1 C1 K1
    generalize ((w.drewN nq).setCell ⟨g, 1, none⟩ (.int .i64 ((at_ : Int) + 1))) = w2 at *
    have c0 : w2.cell? ⟨g, 0, none⟩ = some (.slice (some ⟨b, o, none⟩) n c) := C2.out.cell 0
    have c1 : w2.cell? ⟨g, 1, none⟩ = some (.int .i64 ((at_ : Int) + 1)) := C2.out.cell 1
    have hab : (at_ : Int) < (n : Int) := by omega
    go_quiet ((go_at_call 6; exact Calls.quiet_of_same ((C6.out _).mono fun e w' h => ⟨h.1, h.2.symm⟩)))
    go_wp2
    go_ret
    exact ⟨v, at_ + 1, rfl, h0, h1, ⟨C2.out.drewN _, by omega⟩, K2.out.drewN _⟩
  · have hd : decide ((n : Int) ≤ (at_ : Int)) = true := by simp; omega
    clear hS hC
    go_enter Tryz.func12, Tryz.ntmps12
    go_upto_region 1 with (fail)
    go_quiet (fail)
    go_wp2
    go_ret
    exact ⟨0, at_, rfl, Int.le_refl _, by omega, ⟨HC.out.drewN nq, ha⟩, ⟨rfl, rfl, rfl, Nat.le_refl _, fun _ _ _ _ => rfl⟩⟩
end Go.Proofs.YtbageimconenlaaGreat
