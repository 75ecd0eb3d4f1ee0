/- The reference's cursor: one number, a length: the contracts. | The reference's cursor: a list, a text: the contracts. -/
import Derived.Test.YtlcgpldngooekaaTL
import Derived.Test.YtlcgpldngooekaaCmd
import Derived.Deep.QuietTactic
import Derived.BigQuiet
namespace Go.Proofs.Ytlcgpldngooekaa
open Go.RowKit
set_option linter.unusedVariables false
/-- what a cursor has left -/
def curV (L : List Int) (a : Nat) (bad : Bool) : Option (List Int) := if bad then none else some (L.drop a)
def CR (L : List Int) (A : Option Addr) (n c : Nat) (w : World) (cb a : Nat) (bad : Bool) : Prop := Blk w cb 89 #[.slice A n c, .int .i64 a, .bool bad] ∧ a ≤ n
theorem cur_bad (L : List Int) (a : Nat) : curV L a true = none := rfl
theorem cur_ok (L : List Int) (a : Nat) : curV L a false = some (L.drop a) := rfl
theorem cur_took {L : List Int} {a : Nat} {bad : Bool} {x : Int} (h : L[a]? = some x) : Took Any (curV L a bad) (curV L (a + 1) bad) x := by
  cases bad with
  | true => exact ⟨fun R h => (by cases h), fun y R _ h => (by cases h)⟩
  | false =>
    have hd := drop_cons h
    refine ⟨fun R hR => ⟨trivial, ?_⟩, fun y R _ hR => ?_⟩
    · rw [cur_ok] at hR ⊢
      injection hR with hR
      rw [hd, hR]
    · rw [cur_ok] at hR ⊢
      injection hR with hR
      rw [hd] at hR
      injection hR with _ hR
      rw [hR]
theorem cur_over {L : List Int} {a : Nat} {bad : Bool} (h : L.length ≤ a) : Took Any (curV L a bad) (curV L a true) 0 := by
  refine ⟨fun R hR => (by cases hR), fun y R _ hR => ?_⟩
  cases bad with
  | true => cases hR
  | false => rw [cur_ok, List.drop_of_length_le h] at hR; cases hR
/-- a number was taken -/
def TakeR (L : List Int) (A : Option Addr) (n c cb a : Nat) (bad : Bool) (w : World) (e : Ending) (w' : World) : Prop :=
  ∃ (x : Int) (a' : Nat) (bad' : Bool), e = .returned (.int .i64 x) ∧ Fit x ∧ Took Any (curV L a bad) (curV L a' bad') x ∧ CR L A n c w' cb a' bad' ∧ (a < n → a' = a + 1 ∧ bad' = bad) ∧ Keep cb cb w w'
set_option maxHeartbeats 1000000 in
theorem take_any {L : List Int} {A : Option Addr} {n c B cb a : Nat} {bad : Bool} {w : World} (hC : CR L A n c w cb a bad) (hS : Sl w B A n (L.map (Value.int .i64))) (hi : Ints L) (hn : n ≤ 1000000000) (hB : B ≤ cb) :
    Calls Try.prog 44 #[.pointer (some ⟨cb, 0, none⟩)] w (TakeR L A n c cb a bad w) := by
  have hl := hS.len
  obtain ⟨hC, ha⟩ := hC
  have c0 : w.cell? ⟨cb, 0, none⟩ = some (.slice A n c) := hC.cell 0
  have c1 : w.cell? ⟨cb, 1, none⟩ = some (.int .i64 a) := hC.cell 1
  have c2 : w.cell? ⟨cb, 2, none⟩ = some (.bool bad) := hC.cell 2
  have f1 := hC.frozen 1
  have f2 := hC.frozen 2
  have HC := hide hC
  by_cases hlt : a < n
  · obtain ⟨b, o, x, hA, hb, hx, hcell⟩ := hS.int hlt
    subst hA
    have hne : b ≠ cb := by omega
    have hfx := hi x (List.mem_of_getElem? hx)
    have HX := hide hx
    have HF := hide hfx
    have hd : decide ((n : Int) ≤ (a : Int)) = false := by simp; omega
    have HS := hide hS
    have HCE := hide hcell
    clear hS hi hC hx hfx hl hcell
    go_enter Try.func44, Try.ntmps44
    go_upto_region 1 with (fail)
    go_quiet (fail)
    go_upto_region 4 with (fail)
    have C1 := hide (HC.out.drewN nq)
    have K1 := hide (show Keep cb cb w (w.drewN nq) from ⟨rfl, rfl, rfl, Nat.le_refl _, fun _ _ _ _ => rfl⟩)
    have E1 : (w.drewN nq).cell? ⟨b, o + a, none⟩ = some (.int .i64 x) := HCE.out
    clear c0 c1 c2 f1 f2 HC HCE HS hd
    generalize w.drewN nq = w1 at *
    have c0 : w1.cell? ⟨cb, 0, none⟩ = some (.slice (some ⟨b, o, none⟩) n c) := C1.out.cell 0
    have c1 : w1.cell? ⟨cb, 1, none⟩ = some (.int .i64 a) := C1.out.cell 1
    have f1 := C1.out.frozen 1
    go_upto_region 5 with (fail)
    have C2 := hide (show Blk (w1.setCell ⟨cb, 1, none⟩ (.int .i64 ((a : Int) + 1))) cb 89 #[.slice (some ⟨b, o, none⟩) n c, .int .i64 ((a + 1 : Nat) : Int), .bool bad] by simpa using C1.out.set_ 1 (.int .i64 ((a : Int) + 1)))
    have K2 := hide (K1.out.set_tb 1 (.int .i64 ((a : Int) + 1)))
    have E2 : (w1.setCell ⟨cb, 1, none⟩ (.int .i64 ((a : Int) + 1))).cell? ⟨b, o + a, none⟩ = some (.int .i64 x) := (World.cell?_setCell_other _ _ _ _ (fun e => hne (by injection e with e1 _ _; exact e1.symm))).trans E1
    clear c0 c1 f1 E1 C1 K1
    generalize (w1.setCell ⟨cb, 1, none⟩ (.int .i64 ((a : Int) + 1))) = w2 at *
    have c0 : w2.cell? ⟨cb, 0, none⟩ = some (.slice (some ⟨b, o, none⟩) n c) := C2.out.cell 0
    have c1 : w2.cell? ⟨cb, 1, none⟩ = some (.int .i64 ((a : Int) + 1)) := C2.out.cell 1
    have hab : (a : Int) < (n : Int) := by omega
    go_quiet (fail)
    go_wp2
    go_ret
    exact ⟨x, a + 1, bad, rfl, HF.out, cur_took HX.out, ⟨C2.out, by omega⟩, fun _ => ⟨rfl, rfl⟩, ⟨K2.out.os, K2.out.tape, K2.out.output, K2.out.size, K2.out.block⟩⟩
  · have ha2 : a = n := by omega
    have HL := hide hl
    have hd : decide ((n : Int) ≤ (a : Int)) = true := by simp; omega
    clear hS hi hC hl
    go_enter Try.func44, Try.ntmps44
    go_upto_region 1 with (fail)
    go_quiet (fail)
    go_wp2
    go_ret
    exact ⟨0, a, true, rfl, ⟨by omega, by omega⟩, cur_over (by have := HL.out; omega), ⟨by simpa using (HC.out.drewN nq).set_ 2 (.bool true), by omega⟩, fun h => absurd h hlt, ⟨rfl, rfl, rfl, by simp [World.setCell], fun k hk h1 _ => Below.heap_setCell _ ⟨cb, 2, none⟩ _ k h1⟩⟩
theorem CR.drewN {L : List Int} {A : Option Addr} {n c cb a : Nat} {bad : Bool} {w : World} (h : CR L A n c w cb a bad) (k : Nat) : CR L A n c (w.drewN k) cb a bad := ⟨h.1.drewN k, h.2⟩
theorem Keep.drewN {tb g : Nat} {a b : World} (x : Keep tb g a b) (k : Nat) : Keep tb g a (b.drewN k) := ⟨x.os, x.tape, x.output, x.size, x.block⟩
/-- a length was taken, which fits what is left -/
def TookM (s t : Option (List Int)) (r : Nat) : Prop := (∀ R, t = some R → s = some ((r : Int) :: R) ∧ r ≤ R.length) ∧ (∀ es R, s = some ((es.length : Int) :: (es ++ R)) → t = some (es ++ R) ∧ r = es.length)
def ManyR (L : List Int) (A : Option Addr) (n c cb a : Nat) (bad : Bool) (w : World) (e : Ending) (w' : World) : Prop :=
  ∃ (r a' : Nat) (bad' : Bool), e = .returned (.int .i64 r) ∧ TookM (curV L a bad) (curV L a' bad') r ∧ CR L A n c w' cb a' bad' ∧ a' + r ≤ n ∧ Keep cb cb w w'
theorem cur_many_ok {L : List Int} {a a' : Nat} {bad bad' : Bool} {x : Int} (h : Took Any (curV L a bad) (curV L a' bad') x) (h1 : 0 ≤ x) (h2 : x.toNat + a' ≤ L.length) : TookM (curV L a bad) (curV L a' bad') x.toNat := by
  refine ⟨fun R hR => ?_, fun es R hs => ?_⟩
  · refine ⟨by rw [(h.1 R hR).2, Int.toNat_of_nonneg h1], ?_⟩
    cases bad' with
    | true => cases hR
    | false =>
      rw [cur_ok] at hR
      injection hR with hR
      rw [← hR, List.length_drop]; omega
  · have ht := h.2 _ _ trivial hs
    have hb := (h.1 _ ht).2
    rw [hs] at hb
    injection hb with hb
    injection hb with hb _
    exact ⟨ht, by omega⟩
theorem cur_many_no {L : List Int} {a a' : Nat} {bad bad' : Bool} {x : Int} (h0 : a' ≤ L.length) (h : Took Any (curV L a bad) (curV L a' bad') x) (h1 : ¬ (0 ≤ x ∧ x ≤ (L.length : Int) - a')) : TookM (curV L a bad) (curV L a' true) 0 := by
  refine ⟨fun R hR => (by cases hR), fun es R hs => ?_⟩
  exfalso
  have ht := h.2 _ _ trivial hs
  have hb := (h.1 _ ht).2
  rw [hs] at hb
  injection hb with hb
  injection hb with hb _
  cases bad' with
  | true => cases ht
  | false =>
    rw [cur_ok] at ht
    injection ht with ht
    have hlen := congrArg List.length ht
    rw [List.length_drop, List.length_append] at hlen
    apply h1
    omega
set_option maxHeartbeats 1000000 in
theorem many_any {L : List Int} {A : Option Addr} {n c B cb a : Nat} {bad : Bool} {w : World} (hC : CR L A n c w cb a bad) (hS : Sl w B A n (L.map (Value.int .i64))) (hi : Ints L) (hn : n ≤ 1000000000) (hB : B ≤ cb) :
    Calls Try.prog 61 #[.pointer (some ⟨cb, 0, none⟩)] w (ManyR L A n c cb a bad w) := by
  have hl := hS.len
  have C44 := hide (take_any hC hS hi hn hB)
  have HL := hide hl
  clear hC hS hi hl
  unfold TakeR at C44
  go_enter Try.func61, Try.ntmps61
  go_wp2_with (fail)
  refine C44.out.mono ?_
  rintro e w2 ⟨x, a', bad', rfl, hfx, htk, hC2, _, hK2⟩
  have c0 : w2.cell? ⟨cb, 0, none⟩ = some (.slice A n c) := hC2.1.cell 0
  have c1 : w2.cell? ⟨cb, 1, none⟩ = some (.int .i64 a') := hC2.1.cell 1
  have c2 : w2.cell? ⟨cb, 2, none⟩ = some (.bool bad') := hC2.1.cell 2
  have f2 := hC2.1.frozen 2
  have han := hC2.2
  have hfx1 : -9223372036854775808 ≤ x := hfx.1
  have hfx2 : x ≤ 9223372036854775807 := hfx.2
  have HT := hide htk
  have HC2 := hide hC2
  have HK2 := hide hK2
  clear htk hC2 hK2 hfx
  have hsub : (0 : Int) ≤ (n : Int) - (a' : Int) ∧ (n : Int) - (a' : Int) ≤ 1000000000 := by omega
  by_cases h1 : 0 ≤ x
  · have d1 : decide (x < 0) = false := by simp; omega
    by_cases h2 : x ≤ (n : Int) - (a' : Int)
    · have d2 : decide ((n : Int) - (a' : Int) < x) = false := by simp; omega
      have hxe : x = ((x.toNat : Nat) : Int) := by omega
      have HXE := hide hxe
      clear hxe
      go_upto_region 2 with (fail)
      go_quiet (fail)
      go_wp2
      go_ret
      exact ⟨x.toNat, a', bad', ret_int HXE.out, cur_many_ok HT.out h1 (by have := HL.out; omega), HC2.out.drewN nq, by omega, HK2.out.drewN nq⟩
    · have d2 : decide ((n : Int) - (a' : Int) < x) = true := by simp; omega
      have HN := hide (show ¬ (0 ≤ x ∧ x ≤ (n : Int) - (a' : Int)) from fun c => h2 c.2)
      go_upto_region 2 with (fail)
      go_quiet (fail)
      go_wp2
      go_ret
      exact ⟨0, a', true, rfl, cur_many_no (by have := HL.out; omega) HT.out (by rw [HL.out]; exact HN.out), ⟨by simpa using (HC2.out.1.drewN nq).set_ 2 (.bool true), han⟩, by omega, (HK2.out.drewN nq).set_tb 2 _⟩
  · have d1 : decide (x < 0) = true := by simp; omega
    have HN := hide (show ¬ (0 ≤ x ∧ x ≤ (n : Int) - (a' : Int)) from fun c => h1 c.1)
    go_upto_region 2 with (fail)
    go_quiet (fail)
    go_wp2
    go_ret
    exact ⟨0, a', true, rfl, cur_many_no (by have := HL.out; omega) HT.out (by rw [HL.out]; exact HN.out), ⟨by simpa using (HC2.out.1.drewN nq).set_ 2 (.bool true), han⟩, by omega, (HK2.out.drewN nq).set_tb 2 _⟩
end Go.Proofs.Ytlcgpldngooekaa
namespace Go.Proofs.Ytlcgpldngooekaa
open Go.RowKit
set_option linter.unusedVariables false
/-- the length was taken, then its elements -/
theorem TookL.many {P : Int → Prop} {s0 s1 t : Option (List Int)} {r : Nat} {acc : List Int} (h0 : TookM s0 s1 r) (hg : Going P s1 r r acc t) : TookL P s0 t acc := by
  obtain ⟨g1, g2, g3, g4⟩ := hg
  refine ⟨fun R hR => ?_, fun es R he hs => ?_⟩
  · obtain ⟨k1, k2⟩ := g3 R hR
    refine ⟨k1, ?_⟩
    rw [(h0.1 _ k2).1, g1]
  · obtain ⟨h1, h2⟩ := h0.2 es R hs
    have := g4 es R he h2.symm h1
    rw [this, List.drop_of_length_le (by omega)]; rfl
/-- an element was no byte -/
theorem TookL.wrong {s0 s1 t u : Option (List Int)} {r i : Nat} {acc : List Int} {x : Int} (h0 : TookM s0 s1 r) (hg : Going IsByte s1 r i acc t) (hi : i < r) (hx : Took Any t u x) (hn : ¬ (0 ≤ x ∧ x ≤ 255)) : TookL IsByte s0 none [] := by
  obtain ⟨g1, g2, g3, g4⟩ := hg
  refine ⟨fun R hR => (by cases hR), fun es R he hs => ?_⟩
  exfalso
  obtain ⟨h1, h2⟩ := h0.2 es R hs
  have h3 := g4 es R he h2.symm h1
  rw [List.drop_eq_getElem_cons (by omega)] at h3
  have h4 := hx.2 _ _ trivial h3
  have h5 := (hx.1 _ h4).2
  rw [h3] at h5
  injection h5 with h5
  injection h5 with h5 _
  have := he _ (List.getElem_mem (show i < es.length by omega))
  rw [h5] at this
  exact hn this
def CListR (L : List Int) (A : Option Addr) (n c cb a : Nat) (bad : Bool) (w : World) (e : Ending) (w' : World) : Prop :=
  ∃ (ds : List Int) (A' : Option Addr) (c' a' : Nat) (bad' : Bool), e = .returned (.slice A' ds.length c') ∧ TookL Any (curV L a bad) (curV L a' bad') ds ∧ (∀ d ∈ ds, Fit d) ∧ ds.length ≤ n ∧ CR L A n c w' cb a' bad' ∧ w'.ownsRow w.heap.size 2 1 (.slice A' ds.length c') ds.length (ds.map (Value.int .i64)) ∧ Keep cb cb w w'
set_option maxRecDepth 100000 in
set_option maxHeartbeats 2000000 in
theorem clist_any {L : List Int} {A : Option Addr} {n c B cb a : Nat} {bad : Bool} {w : World} (hC : CR L A n c w cb a bad) (hS : Sl w B A n (L.map (Value.int .i64))) (hi : Ints L) (hn : n ≤ 1000000000) (hB : B ≤ cb) :
    Calls Try.prog 46 #[.pointer (some ⟨cb, 0, none⟩)] w (CListR L A n c cb a bad w) := by
  obtain ⟨i0, hi0, hz0, hz1, hz2⟩ := info_parts infoListI
  have hcl := hC.1.lt
  have C61 := hide (many_any hC hS hi hn hB)
  have HI := hide hi
  have HS := hide hS
  clear hC hS hi
  unfold ManyR at C61
  go_enter Try.func46, Try.ntmps46
  go_wp2_with (fail)
  refine C61.out.mono ?_
  rintro e w2 ⟨r, a1, b1, rfl, htm, hC2, har, hK2⟩
  have S2 := hide (hK2.sl HS.out hB hB (by omega))
  have hw2 : w.heap.size ≤ w2.heap.size := hK2.size
  have hrb : r ≤ 1000000000 := by omega
  have HTM := hide htm
  have C2 := hide hC2
  have K2 := hide hK2
  clear htm hC2 hK2 HS C61
  go_wp2
  go_loopw [3, 4] (fun v nn wr => ∃ (i : Nat) (acc : List Int) (a' : Nat) (b' : Bool) (A1 : Option Addr) (c1 : Nat), Going Any (curV L a1 b1) r i acc (curV L a' b') ∧ a' + (r - i) ≤ n ∧ (∀ d ∈ acc, Fit d) ∧ v = .slice A1 i c1 ∧ nn = .int .i64 ((r : Int) - (i : Int)) ∧ CR L A n c wr cb a' b' ∧ wr.ownsRow w.heap.size 2 1 (.slice A1 i c1) i (acc.map (Value.int .i64)) ∧ Keep cb cb w wr ∧ Sl wr B A n (L.map (Value.int .i64))) (fun _ nn _ => (intOf nn).toNat)
  case atStart => exact ⟨0, [], a1, b1, none, 0, Going.start _ _, by omega, by simp, rfl, by simp, C2.out, own_nil, K2.out, S2.out⟩
  case round =>
    obtain ⟨i, acc, a', b', A1, c1, hgo, hai, hfa, rfl, rfl, hC, hO, hK, hS⟩ := hrel
    have hlen := hgo.1
    have hir : i ≤ r := hgo.2.1
    have HLN := hide hlen
    have HGO := hide hgo
    have HFA := hide hfa
    clear hgo hfa hlen
    by_cases hlt : i < r
    · have d1 : (0 : Int) < (r : Int) - (i : Int) := by omega
      have d2 : decide ((0 : Int) < (r : Int) - (i : Int)) = true := by simpa using d1
      have C44 := hide (take_any hC hS HI.out hn hB)
      have hws := hK.size
      have O1 := hide hO
      have S1 := hide hS
      have K1 := hide hK
      clear hC hO hS hK
      unfold TakeR at C44
      have hqo : ∀ q, (Value.slice A1 i c1).ownBlock = some q → w.heap.size ≤ q ∧ q < wr.heap.size := fun q hq => O1.out.lt q hq
      go_wp2_with (first | (go_at_call 44; refine C44.out.mono ?_; rintro e w3 ⟨x, a3, b3, rfl, hfx, htk, hC3, hadv, hK3⟩; have O3 := hide (hK3.owns O1.out (fun q hq => by have := hqo q hq; omega)); have S3 := hide (hK3.sl S1.out hB hB (by omega)); have K3 := hide (K1.out.trans hK3); have hw3 := hK3.size; have T3 := hide htk; have A3 := hide hadv; have F3 := hide hfx; have C3 := hide hC3; clear hfx htk hC3 hadv hK3) | (at_builtin; refine wpList_append_sl _ rfl (.tmp 11) (.tmp 14) 33 rfl w.heap.size 2 i0 (.int .i64 0) 8 Try.underlying33 hi0 hz0 hz1 hz2 rfl (.slice A1 i c1) i (acc.map (Value.int .i64)) rfl (O3.out.alloc _) (w3.heap.size + 1) (some ⟨w3.heap.size, 0, none⟩) 1 1 [.int .i64 x] rfl (Sl.one _ _ _) (by intro u hu; simp at hu; subst hu; rfl) (by simp only [maxLen]; omega) (by omega) (by simp; omega) ?_; intro v6 w6 hown6 hg6 hat6; obtain ⟨A2, c2, hv6, _, _⟩ := own_slice hown6; subst hv6))
      have C6 := hide (show CR L A n c w6 cb a3 b3 from ⟨wb_keep (C3.out.1.alloc _) hg6 (fun q hq => by have := hqo q hq; have := O3.out.lt q hq; omega), C3.out.2⟩)
      have K6 := hide ((K3.out.alloc _).grown hg6 (fun q hq => (O3.out.lt q hq).1))
      have S6 := hide (S3.out.below (((Below.refl B w3).alloc (by omega) _).grown hg6 (by simp; omega) (fun q hq => by have := (O3.out.lt q hq).1; omega)))
      have hadv := A3.out (by omega)
      have G6 := hide (HGO.out.step hlt T3.out)
      have HAD := hide hadv
      have HO6 := hide hown6
      clear hown6 hg6 hat6 hadv
      go_roundw
      case rel => exact ⟨i + 1, acc ++ [x], a3, b3, A2, c2, G6.out, by have := HAD.out.1; omega, (by intro d hd; rcases List.mem_append.1 hd with hd | hd; (· exact HFA.out d hd); (· obtain rfl : d = x := (by simpa using hd); exact F3.out)), rfl, by first | rfl | (congr 1; omega), C6.out, by simpa using HO6.out, K6.out, S6.out⟩
      case measure => simp [intOf]; omega
    · have hre : i = r := by omega
      subst hre
      have d1 : ¬ (0 : Int) < (i : Int) - (i : Int) := by omega
      have HC := hide hC
      have HO := hide hO
      have HK := hide hK
      have hf := TookL.many HTM.out HGO.out
      have HF := hide hf
      clear hC hO hK hS hf
      go_wp2
      go_ret
      exact ⟨acc, A1, c1, a', b', by rw [HLN.out]; rfl, HF.out, HFA.out, by have := HLN.out; omega, HC.out, by rw [HLN.out]; exact HO.out, HK.out⟩
end Go.Proofs.Ytlcgpldngooekaa
