/- Contracts of the numbers of sequences, the comparison of lists, and the chapter's example. -/
import Derived.Test.YtphkofgbpfcoiaaCWeight
import Derived.Deep.QuietTactic
import Derived.BigQuiet
namespace Go.Proofs.Ytphkofgbpfcoiaa
open Go.RowKit
set_option linter.unusedVariables false
theorem numL_snoc : ∀ {rs ds : List Int} (r d : Int), ds.length = rs.length → numL (rs ++ [r]) (ds ++ [d]) = numL rs ds * r + d
  | [], [], r, d, _ => by simp [numL, prodL]
  | [], _ :: _, _, _, h => by simp at h
  | _ :: _, [], _, _, h => by simp at h
  | a :: rs, b :: ds, r, d, h => by
    simp only [List.cons_append, numL, prodL_snoc]
    rw [numL_snoc r d (by simpa using h), Int.add_mul, Int.mul_assoc]; omega
theorem inL_snoc : ∀ {rs ds : List Int} (r d : Int), ds.length = rs.length → (inL (rs ++ [r]) (ds ++ [d]) ↔ inL rs ds ∧ 0 ≤ d ∧ d < r)
  | [], [], r, d, _ => by simp [inL]
  | [], _ :: _, _, _, h => by simp at h
  | _ :: _, [], _, _, h => by simp at h
  | a :: rs, b :: ds, r, d, h => by
    simp only [List.cons_append, inL]
    rw [inL_snoc r d (by simpa using h)]
    constructor
    · rintro ⟨h1, h2, h3, h4, h5⟩; exact ⟨⟨h1, h2, h3⟩, h4, h5⟩
    · rintro ⟨⟨h1, h2, h3⟩, h4, h5⟩; exact ⟨h1, h2, h3, h4, h5⟩
theorem inL_take : ∀ {rs ds : List Int} (j : Nat), inL rs ds → inL (rs.take j) (ds.take j)
  | [], [], _, _ => by simp [inL]
  | [], _ :: _, _, h => absurd h id
  | _ :: _, [], _, h => absurd h id
  | a :: rs, b :: ds, 0, h => by simp [inL]
  | a :: rs, b :: ds, j + 1, h => ⟨h.1, h.2.1, inL_take j h.2.2⟩
theorem inL_at {rs ds : List Int} {j : Nat} {r d : Int} (h : inL rs ds) (hr : rs[j]? = some r) (hd : ds[j]? = some d) : 0 ≤ d ∧ d < r := by
  have := inL_take (j + 1) h
  rw [take_snoc hr, take_snoc hd, inL_snoc r d (by have := inL_len (inL_take j h); omega)] at this
  exact this.2
def NumEnd (rs ds : List Int) (w : World) (e : Ending) (w' : World) : Prop :=
  (((WOk rs ∧ inL rs ds) ∧ e = .returned (.tuple #[.int .i64 (numL rs ds), .bool true])) ∨ (¬ (WOk rs ∧ inL rs ds) ∧ e = .returned (.tuple #[.int .i64 0, .bool false]))) ∧ w = w'
theorem num_no {rs ds : List Int} {w : World} (h : ¬ (WOk rs ∧ inL rs ds)) : NumEnd rs ds w (.returned (.tuple #[.int .i64 0, .bool false])) w := ⟨.inr ⟨h, rfl⟩, rfl⟩
theorem num_yes {rs ds : List Int} {w : World} {p : Int} (h : WOk rs ∧ inL rs ds) (hp : p = numL rs ds) : NumEnd rs ds w (.returned (.tuple #[.int .i64 p, .bool true])) w := by
  subst hp; exact ⟨.inl ⟨h, rfl⟩, rfl⟩
set_option maxRecDepth 100000 in
theorem number_any (A A2 : Option Addr) (n c B n2 c2 B2 : Nat) (rs ds : List Int) (w : World) (h : Sl w B A n (rs.map (Value.int .i64))) (hf : Fits rs) (hn : n ≤ 9223372036854775807) (k : Sl w B2 A2 n2 (ds.map (Value.int .i64))) (hn2 : n2 ≤ 9223372036854775807) :
    Calls Try.prog 17 #[.slice A n c, .slice A2 n2 c2] w (NumEnd rs ds w) := by
  have hl := h.len
  have kl := k.len
  have C1 := hide (weight_any A n c B rs w h hf hn)
  unfold WeightEnd at C1
  by_cases hw : WOk rs
  · rw [(wV_yes hw).1, (wV_yes hw).2] at C1
    by_cases hlen : n2 = n
    · subst hlen
      have HW := hide hw
      have hP : prodL rs ≤ 4611686018427387904 := hw.2
      have hT := hide (fun j => prodL_take hw.1 j)
      clear hw hf
      go_enter Try.func17, Try.ntmps17
      go_wp2_with (go_at_call 9; refine C1.out.mono ?_; rintro e w' ⟨rfl, rfl⟩)
      go_loop [8, 27] (fun x i => ∃ (j : Nat) (p : Int), j ≤ n2 ∧ inL (rs.take j) (ds.take j) ∧ p = numL (rs.take j) (ds.take j) ∧ i = .int .i64 j ∧ x = .int .i64 p) (fun _ i => n2 - (intOf i).toNat)
      case atStart => exact ⟨0, 0, Nat.zero_le _, by simp [inL], by simp [numL], rfl, rfl⟩
      case round =>
        obtain ⟨j, p, hj, hin, hp, rfl, rfl⟩ := hrel
        have hb := numL_bd hin
        rw [← hp] at hb
        have HIN := hide hin
        have HP := hide hp
        clear hin hp
        by_cases hlt : j < n2
        · obtain ⟨b, o, z, rfl, hbB, hz, hc⟩ := h.int hlt
          obtain ⟨b2, o2, d, rfl, hbB2, hd, hc2⟩ := k.int hlt
          have hle : (ds.take j).length = (rs.take j).length := by simp; omega
          by_cases hd0 : d < 0
          · have HN := hide (show ¬ (WOk rs ∧ inL rs ds) from fun c => by have := inL_at c.2 hz hd; omega)
            clear h k hb hz hd hle
            go_wp2
            go_ret2
            exact num_no HN.out
          · by_cases hdz : z ≤ d
            · have HN := hide (show ¬ (WOk rs ∧ inL rs ds) from fun c => by have := inL_at c.2 hz hd; omega)
              clear h k hb hz hd hle
              go_wp2
              go_ret2
              exact num_no HN.out
            · have hin2 : inL (rs.take (j + 1)) (ds.take (j + 1)) := by rw [take_snoc hz, take_snoc hd, inL_snoc z d hle]; exact ⟨HIN.out, by omega, by omega⟩
              have hv2 : numL (rs.take (j + 1)) (ds.take (j + 1)) = p * z + d := by rw [take_snoc hz, take_snoc hd, numL_snoc z d hle, ← HP.out]
              have hb2 := numL_bd hin2
              rw [hv2] at hb2
              have hb3 := hT.out (j + 1)
              have hb4 : 0 ≤ p * z := Int.mul_nonneg hb.1 (by omega)
              have hb5 : p * z + d ≤ 4611686018427387904 := by omega
              have HI2 := hide hin2
              have HV2 := hide hv2
              clear h k hb hz hd hle hin2 hv2 hb2 hb3
              go_wp2
              go_round
              case rel => exact ⟨j + 1, p * z + d, by omega, HI2.out, HV2.out.symm, by go_num, rfl⟩
              case measure => simp [intOf]; omega
        · have hin := HIN.out
          have hp := HP.out
          rw [List.take_of_length_le (by omega), List.take_of_length_le (by omega)] at hin hp
          have HI2 := hide hin
          have HP2 := hide hp
          clear hin hp h k hb
          go_wp2
          go_ret2
          exact num_yes ⟨HW.out, HI2.out⟩ HP2.out
    · have HN := hide (show ¬ (WOk rs ∧ inL rs ds) from fun c => by have := inL_len c.2; omega)
      have hne : ((n2 : Int) != n) = true := by simp; omega
      clear h k hw hf
      go_enter Try.func17, Try.ntmps17
      go_wp2_with (go_at_call 9; refine C1.out.mono ?_; rintro e w' ⟨rfl, rfl⟩)
      go_ret2
      exact num_no HN.out
  · rw [(wV_no hw).1, (wV_no hw).2] at C1
    have HN := hide (show ¬ (WOk rs ∧ inL rs ds) from fun c => hw c.1)
    clear h k hw hf
    go_enter Try.func17, Try.ntmps17
    go_wp2_with (go_at_call 9; refine C1.out.mono ?_; rintro e w' ⟨rfl, rfl⟩)
    go_ret2
    exact num_no HN.out
set_option maxRecDepth 100000 in
theorem rnumber_any (A A2 : Option Addr) (n c B n2 c2 B2 : Nat) (rs ds : List Int) (w : World) (h : Sl w B A n (rs.map (Value.int .i64))) (hf : Fits rs) (hn : n ≤ 9223372036854775807) (k : Sl w B2 A2 n2 (ds.map (Value.int .i64))) (hn2 : n2 ≤ 9223372036854775807) :
    Calls Try.prog 18 #[.slice A n c, .slice A2 n2 c2] w (NumEnd rs ds w) := by
  have hl := h.len
  have kl := k.len
  have C1 := hide (rweight_any A n c B rs w h hf hn)
  unfold WeightEnd at C1
  by_cases hw : WOk rs
  · rw [(wV_yes hw).1, (wV_yes hw).2] at C1
    by_cases hlen : n2 = n
    · subst hlen
      have HW := hide hw
      have hP : prodL rs ≤ 4611686018427387904 := hw.2
      have hT := hide (fun j => prodL_take hw.1 j)
      clear hw hf
      go_enter Try.func18, Try.ntmps18
      go_wp2_with (go_at_call 10; refine C1.out.mono ?_; rintro e w' ⟨rfl, rfl⟩)
      go_loop [8, 27] (fun x i => ∃ (j : Nat) (p : Int), j ≤ n2 ∧ inL (rs.take j) (ds.take j) ∧ p = numL (rs.take j) (ds.take j) ∧ i = .int .i64 j ∧ x = .int .i64 p) (fun _ i => n2 - (intOf i).toNat)
      case atStart => exact ⟨0, 0, Nat.zero_le _, by simp [inL], by simp [numL], rfl, rfl⟩
      case round =>
        obtain ⟨j, p, hj, hin, hp, rfl, rfl⟩ := hrel
        have hb := numL_bd hin
        rw [← hp] at hb
        have HIN := hide hin
        have HP := hide hp
        clear hin hp
        by_cases hlt : j < n2
        · obtain ⟨b, o, z, rfl, hbB, hz, hc⟩ := h.int hlt
          obtain ⟨b2, o2, d, rfl, hbB2, hd, hc2⟩ := k.int hlt
          have hle : (ds.take j).length = (rs.take j).length := by simp; omega
          by_cases hd0 : d < 0
          · have HN := hide (show ¬ (WOk rs ∧ inL rs ds) from fun c => by have := inL_at c.2 hz hd; omega)
            clear h k hb hz hd hle
            go_wp2
            go_ret2
            exact num_no HN.out
          · by_cases hdz : z ≤ d
            · have HN := hide (show ¬ (WOk rs ∧ inL rs ds) from fun c => by have := inL_at c.2 hz hd; omega)
              clear h k hb hz hd hle
              go_wp2
              go_ret2
              exact num_no HN.out
            · have hin2 : inL (rs.take (j + 1)) (ds.take (j + 1)) := by rw [take_snoc hz, take_snoc hd, inL_snoc z d hle]; exact ⟨HIN.out, by omega, by omega⟩
              have hv2 : numL (rs.take (j + 1)) (ds.take (j + 1)) = p * z + d := by rw [take_snoc hz, take_snoc hd, numL_snoc z d hle, ← HP.out]
              have hb2 := numL_bd hin2
              rw [hv2] at hb2
              have hb3 := hT.out (j + 1)
              have hb4 : 0 ≤ p * z := Int.mul_nonneg hb.1 (by omega)
              have hb5 : p * z + d ≤ 4611686018427387904 := by omega
              have HI2 := hide hin2
              have HV2 := hide hv2
              clear h k hb hz hd hle hin2 hv2 hb2 hb3
              go_wp2
              go_round
              case rel => exact ⟨j + 1, p * z + d, by omega, HI2.out, HV2.out.symm, by go_num, rfl⟩
              case measure => simp [intOf]; omega
        · have hin := HIN.out
          have hp := HP.out
          rw [List.take_of_length_le (by omega), List.take_of_length_le (by omega)] at hin hp
          have HI2 := hide hin
          have HP2 := hide hp
          clear hin hp h k hb
          go_wp2
          go_ret2
          exact num_yes ⟨HW.out, HI2.out⟩ HP2.out
    · have HN := hide (show ¬ (WOk rs ∧ inL rs ds) from fun c => by have := inL_len c.2; omega)
      have hne : ((n2 : Int) != n) = true := by simp; omega
      clear h k hw hf
      go_enter Try.func18, Try.ntmps18
      go_wp2_with (go_at_call 10; refine C1.out.mono ?_; rintro e w' ⟨rfl, rfl⟩)
      go_ret2
      exact num_no HN.out
  · rw [(wV_no hw).1, (wV_no hw).2] at C1
    have HN := hide (show ¬ (WOk rs ∧ inL rs ds) from fun c => hw c.1)
    clear h k hw hf
    go_enter Try.func18, Try.ntmps18
    go_wp2_with (go_at_call 10; refine C1.out.mono ?_; rintro e w' ⟨rfl, rfl⟩)
    go_ret2
    exact num_no HN.out
/-- a block that is known whole reads as a slice -/
theorem Sl.blk {w : World} {g : Nat} {t : TypeId} {cs : Array Value} (h : Blk w g t cs) : Sl w w.heap.size (some ⟨g, 0, none⟩) cs.size cs.toList :=
  ⟨by simp, fun _ => ⟨g, 0, rfl, h.lt, fun i u hu => by rw [Nat.zero_add, h.cell i]; simpa using hu⟩⟩
def AwakeEnd (w : World) (e : Ending) (w' : World) : Prop := e = .returned (.bool true) ∧ Below w.heap.size w w'
theorem awake_any (w : World) : Calls Try.prog 11 #[] w (AwakeEnd w) := by
  have hx := (Blk.new w 2 #[.int .i64 2, .int .i64 3]).alloc (.cells #[.int .i64 1, .int .i64 2] 2)
  have hy := Blk.new (w.alloc (.cells #[.int .i64 2, .int .i64 3] 2)) 2 #[.int .i64 1, .int .i64 2]
  have c1 := number_any _ _ 2 2 _ 2 2 _ [2, 3] [1, 2] _ (Sl.blk hx) (by intro x hx; simp at hx; rcases hx with rfl | rfl <;> decide) (by omega) (Sl.blk hy) (by omega)
  simp only [World.size_alloc] at c1
  have C1 := hide c1
  clear c1 hx hy
  have hok : WOk [2, 3] ∧ inL [2, 3] [1, 2] := ⟨by decide, by simp [inL]⟩
  have hv : numL [2, 3] [1, 2] = 5 := by decide
  have HOK := hide hok
  have HV := hide hv
  clear hok hv
  go_enter Try.func11, Try.ntmps11
  go_wp2_with fail
  refine C1.out.mono ?_
  rintro e w' ⟨⟨_, rfl⟩ | ⟨hno, _⟩, rfl⟩
  · rw [HV.out]
    go_wp2
    go_ret
    exact ⟨rfl, ((Below.refl _ _).alloc (Nat.le_refl _) _).alloc (by simp) _⟩
  · exact absurd HOK.out hno
end Go.Proofs.Ytphkofgbpfcoiaa
