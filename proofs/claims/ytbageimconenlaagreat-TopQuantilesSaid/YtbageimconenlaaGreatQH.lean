/- Summaries: kept; ranks; sizes. -/
import Derived.Test.YtbageimconenlaaGreatQG
namespace Go.Proofs.YtbageimconenlaaGreat
open Go.RowKit En
set_option linter.unusedVariables false
theorem ent93 : Enters Tryz.prog 93 := enters Tryz.func93 (by kernel_rfl) (by kernel_rfl)
theorem ent129 : Enters Tryz.prog 129 := enters Tryz.func129 (by kernel_rfl) (by kernel_rfl)
theorem ent187 : Enters Tryz.prog 187 := enters Tryz.func187 (by kernel_rfl) (by kernel_rfl)
set_option maxRecDepth 100000 in
theorem qh_prune (l : List Int) (n : Nat) (b : Int) (hl : l.length = n) (hn : n ≤ 900) (hs : Asc l) (b1 : 1 ≤ b) (b2 : b ≤ 65536) (hb : (n : Int) ≤ b + 1) (w : World) (A : Option Addr) (c : Nat) (h : SL w A n c 3 (enL 0 l)) :
    Calls Tryz.prog 186 #[.agg #[.int .i64 ((n : Nat)), .slice A n c], .int .i64 b] w (fun e w' => ∃ A' c', e = .returned (.tuple #[.agg #[.int .i64 ((n : Nat)), .slice A' n c'], .int .i64 0]) ∧ OwnK w' w.heap.size 239 3 (.slice A' n c') n (enL 0 l) ∧ Below w.heap.size w w') := by
  have d1 : decide (b < 1) = false := by simp only [decide_eq_false_iff_not]; omega
  have d2 : decide (b > 65536) = false := by simp only [decide_eq_false_iff_not]; omega
  have w1 : IntKind.i64.wrap (b + 1) = b + 1 := IntWalk.i64_in _ (by omega)
  have d3 : decide ((n : Int) ≤ b + 1) = true := by simp only [decide_eq_true_eq]; omega
  refine fun_sliceO tblOK mixedP Tryz.func186 rfl (fun s => [.agg #[.int .i64 ((n : Nat)), s], .int .i64 b]) n 3 (enL 0 l) h (by decide) (allFC_en l 0) [.agg #[.int .i64 ((n : Nat)), .slice (some ⟨0, 0, none⟩) n 0], .int .i64 b] rfl (fun _ => rfl) 67 [(0, .agg #[.int .i64 ((n : Nat)), .slice (some ⟨0, 0, none⟩) n 0]), (1, .int .i64 b)] rfl rfl (by kernel_rfl) rfl rfl (fun s => .tuple #[.agg #[.int .i64 ((n : Nat)), s], .int .i64 0]) n 3 239 (enL 0 l) (by rw [enL_len, hl]) (by decide) (allFC_en l 0) (fun _ _ => rfl) ?_
  repeat' (first | rw [d1] | rw [d2] | rw [w1] | rw [d3] | refine AR.auto rfl ?_ | refine AR.man (AOk.callS (fun s => [.agg #[.int .i64 ((n : Nat)), s]]) 0 n 3 (enL 0 l) (fun w A c h => qf_valid l n hl (by omega) hs w A c h) ent213 rfl rfl rfl (fun _ => rfl) rfl (fun _ _ h => h) (by decide) (by rw [enL_len, hl]) (allFC_en l 0) rfl rfl) rfl rfl rfl ?_ | refine AR.man (AOk.callOS (fun s => [.agg #[.int .i64 ((n : Nat)), s]]) 0 n 3 (enL 0 l) (fun s => .agg #[.int .i64 ((n : Nat)), s]) 40 n 3 239 (enL 0 l) (fun w A c h => qf_copied l n hl (by omega) w A c h) ent216 rfl rfl rfl (fun _ => rfl) rfl (fun _ _ h => h) (by decide) (by rw [enL_len, hl]) (allFC_en l 0) rfl rfl (fun _ => rfl) rfl (allFC_en _ _)) rfl rfl rfl ?_ | refine AR.nil ?_ | refine KF.mk ?_ | refine KT.mk (by kernel_rfl) ?_ | refine SQ.normal ?_ | refine AC.seq ?_ | refine AC.regF ?_ | refine AC.regT ?_ | refine AC.condT rfl ?_ | refine AC.condF rfl ?_ | refine AC.block ?_ | refine BQ.normal ?_ | refine BQ.ret ?_ | refine BQ.here ?_ | refine BQ.there rfl ?_ | refine SQ.ret ?_ | refine SQ.exit ?_ | refine AC.ret ?_ | refine AC.exit ?_ | refine AC.skip ?_ | (refine AR.split rfl (fun h => ?_) (fun h => ?_) <;> rw [h]) | (refine AC.cond rfl (fun h => ?_) (fun h => ?_) <;> rw [h]) | refine FQ.ret rfl rfl ?_ | refine FQ.normal rfl rfl ?_)
  all_goals exact ⟨_, rfl, rfl⟩
def midI (lo hi : Int) : Int := IntKind.i64.wrap (IntKind.i64.wrap ((BitVec.ofInt IntKind.i64.bits lo &&& BitVec.ofInt IntKind.i64.bits hi).toNat : Int) + (IntKind.i64.wrap ((BitVec.ofInt IntKind.i64.bits lo ^^^ BitVec.ofInt IntKind.i64.bits hi).toNat : Int)).fdiv (2 ^ min (Int.toNat 1) IntKind.i64.bits))
set_option maxRecDepth 100000 in
theorem qh_whole (lo hi : Nat) (h : lo ≤ hi) (w : World) : Calls Tryz.prog 140 #[.int .i64 ((lo : Nat)), .int .i64 ((hi : Nat))] w (fun e w' => e = .returned (.tuple #[.agg #[.int .i64 ((lo : Nat)), .int .i64 1, .int .i64 (midI ((lo : Nat)) ((hi : Nat))), .int .i64 1, .int .i64 ((hi : Nat)), .int .i64 1], .bool true]) ∧ Below w.heap.size w w') := by
  have d1 : decide ((lo : Int) > (hi : Int)) = false := by simp only [decide_eq_false_iff_not]; omega
  refine fun_flat tblOK mixedP Tryz.func140 rfl [.int .i64 ((lo : Nat)), .int .i64 ((hi : Nat))] w 26 [(0, .int .i64 ((lo : Nat))), (1, .int .i64 ((hi : Nat)))] rfl rfl (by kernel_rfl) rfl rfl rfl _ rfl ?_
  repeat' (first | rw [d1] | refine AR.auto rfl ?_ | refine AR.man (AOk.call (fun w => gr_of _ w) ent67 rfl rfl rfl rfl rfl) rfl rfl rfl ?_ | refine AR.nil ?_ | refine KF.mk ?_ | refine KT.mk (by kernel_rfl) ?_ | refine SQ.normal ?_ | refine AC.seq ?_ | refine AC.regF ?_ | refine AC.regT ?_ | refine AC.condT rfl ?_ | refine AC.condF rfl ?_ | refine AC.block ?_ | refine BQ.normal ?_ | refine BQ.ret ?_ | refine BQ.here ?_ | refine BQ.there rfl ?_ | refine SQ.ret ?_ | refine SQ.exit ?_ | refine AC.ret ?_ | refine AC.exit ?_ | refine AC.skip ?_ | (refine AR.split rfl (fun h => ?_) (fun h => ?_) <;> rw [h]) | (refine AC.cond rfl (fun h => ?_) (fun h => ?_) <;> rw [h]) | refine FQ.ret rfl rfl ?_ | refine FQ.normal rfl rfl ?_)
  all_goals rfl
theorem ok_qh_whole {lo hi : Nat} (h : lo ≤ hi) {st : St} {o : Oper} {cl : Call} (ho : o.op = .call cl) (hc : cl.callee = .value (.func 140)) (hargs : evs st cl.args.toList = some [.int .i64 ((lo : Nat)), .int .i64 ((hi : Nat))]) : AOk Tryz.prog st o ⟨rq st cl.args.toList, []⟩ ⟨.tuple #[.agg #[.int .i64 ((lo : Nat)), .int .i64 1, .int .i64 (midI ((lo : Nat)) ((hi : Nat))), .int .i64 1, .int .i64 ((hi : Nat)), .int .i64 1], .bool true], [], []⟩ :=
  AOk.call (fun w => qh_whole lo hi h w) ent140 ho hc hargs rfl rfl
set_option maxRecDepth 100000 in
set_option maxHeartbeats 1000000 in
theorem qh_rank (l : List Int) (n : Nat) (v : Int) (r : Nat) (hl : l.length = n) (hn : n ≤ 900) (hs : Asc l) (hr : rk v l = r) (w : World) (A : Option Addr) (c : Nat) (h : SL w A n c 3 (enL 0 l)) :
    Calls Tryz.prog 199 #[.agg #[.int .i64 ((n : Nat)), .slice A n c], .int .i64 v] w (fun e w' => e = .returned (.tuple #[.agg #[.int .i64 ((r : Nat)), .int .i64 1, .int .i64 (midI ((r : Nat)) ((r : Nat))), .int .i64 1, .int .i64 ((r : Nat)), .int .i64 1], .int .i64 0]) ∧ Below w.heap.size w w') := by
  have hrn : r ≤ n := by rw [← hr, ← hl]; exact rk_le v l
  refine fun_sliceF tblOK mixedP Tryz.func199 rfl (fun s => [.agg #[.int .i64 ((n : Nat)), s], .int .i64 v]) n 3 (enL 0 l) h (by decide) (allFC_en l 0) [.agg #[.int .i64 ((n : Nat)), .slice (some ⟨0, 0, none⟩) n 0], .int .i64 v] rfl (fun _ => rfl) 45 [(0, .agg #[.int .i64 ((n : Nat)), .slice (some ⟨0, 0, none⟩) n 0]), (1, .int .i64 v)] rfl rfl (by kernel_rfl) rfl rfl _ rfl ?_
  repeat' (first | refine AR.auto rfl ?_ | refine AR.man (AOk.callS (fun s => [.agg #[.int .i64 ((n : Nat)), s]]) 0 n 3 (enL 0 l) (fun w A c h => qf_valid l n hl (by omega) hs w A c h) ent213 rfl rfl rfl (fun _ => rfl) rfl (fun _ _ h => h) (by decide) (by rw [enL_len, hl]) (allFC_en l 0) rfl rfl) rfl rfl rfl ?_ | refine AR.nil ?_ | refine KF.mk ?_ | refine KT.mk (by kernel_rfl) ?_ | refine SQ.normal ?_ | refine AC.seq ?_ | refine AC.regF ?_ | refine AC.regT ?_ | refine AC.condT rfl ?_ | refine AC.condF rfl ?_ | refine AC.block ?_ | refine BQ.normal ?_ | refine BQ.ret ?_ | refine BQ.here ?_ | refine BQ.there rfl ?_ | refine SQ.ret ?_ | refine SQ.exit ?_ | refine AC.ret ?_ | refine AC.exit ?_ | refine AC.skip ?_ | (refine AR.split rfl (fun h => ?_) (fun h => ?_) <;> rw [h]) | (refine AC.cond rfl (fun h => ?_) (fun h => ?_) <;> rw [h]) | refine FQ.ret rfl rfl ?_ | refine FQ.normal rfl rfl ?_)
  refine AC.loop (fun k st => ∃ i : Nat, k = n - i ∧ i ≤ r ∧ i ≤ n ∧ st = ⟨[(24, .int .i64 (i : Nat)), (23, .int .i64 (n : Nat)), (22, .slice (some ⟨0, 0, none⟩) n 0), (8, .int .i64 (n : Nat)), (7, .int .i64 (i : Nat)), (1, .int .i64 v), (5, .int .i64 0), (4, .pointer (some ⟨2, 0, none⟩))], [(2, .row 70 [.int .i64 0, .int .i64 0, .int .i64 0, .int .i64 0, .int .i64 0, .int .i64 0]), (0, .view 3 (enL 0 l))], [2, 1, 0], 45⟩) n _ ?_ ⟨0, rfl, Nat.zero_le _, Nat.zero_le _, rfl⟩ ?_
  · exact Ren.mv (tabF []) rfl (fun k hk => by match k, hk with | 0, _ => exact ⟨rfl, rfl⟩) ⟨⟨rfl, rfl⟩, ⟨rfl, rfl⟩, ⟨rfl, rfl⟩, ⟨rfl, rfl⟩, ⟨rfl, rfl⟩, ⟨rfl, rfl⟩, ⟨rfl, rfl⟩, ⟨rfl, rfl⟩, trivial⟩ ⟨⟨rfl, rfl, rfl⟩, ⟨by rw [mv_env]; rfl, rfl, allNC_en _ _ _⟩, trivial⟩ rfl
  intro k st hi
  obtain ⟨i, rfl, hir, hin, rfl⟩ := hi
  by_cases hlt : i < n
  · have hd : decide ((i : Int) < (n : Int)) = true := by simp only [decide_eq_true_eq]; omega
    have w4 : IntKind.i64.wrap ((i : Int) + 1) = ((i + 1 : Nat) : Int) := by rw [IntWalk.i64_in _ (by omega)]; rfl
    have w5 : IntKind.i64.wrap (((i + 1 : Nat) : Int) - 1) = (i : Int) := by rw [IntWalk.i64_in _ (by omega)]; omega
    obtain ⟨a, ha⟩ : ∃ a, l[i]? = some a := ⟨l[i]'(by omega), List.getElem?_eq_getElem (by omega)⟩
    have hsp := rk_split hs v i a ha
    rw [hr] at hsp
    by_cases hav : a ≤ v
    · have hd2 : decide (a > v) = false := by simp only [decide_eq_false_iff_not]; omega
      repeat' (first | rw [hd] | rw [hd2] | rw [w4] | refine AR.auto rfl ?_ | refine AR.man (oke_idx (A0 := 0) (i := i) rfl rfl rfl rfl (nonE_env 3 0 (by omega)) (by omega)) rfl rfl rfl ?_ | refine AR.man (oke_ld (v := a) (j := i) rfl rfl rfl (fun jj u hu => by rw [show 0 + i * 3 + jj = i * 3 + jj from (by omega), show (Box.view 3 (enL 0 l)).cells = enL 0 l from rfl, enL_at l 0 i jj a ha (by have := (List.getElem?_eq_some_iff.1 hu).1; simpa [enC] using this), Nat.zero_add]; exact hu)) rfl rfl rfl ?_ | refine AR.nil ?_ | refine KF.mk ?_ | refine KT.mk (by kernel_rfl) ?_ | refine SQ.normal ?_ | refine AC.seq ?_ | refine AC.regF ?_ | refine AC.regT ?_ | refine AC.condT rfl ?_ | refine AC.condF rfl ?_ | refine AC.block ?_ | refine BQ.normal ?_ | refine BQ.ret ?_ | refine BQ.here ?_ | refine BQ.there rfl ?_ | refine SQ.ret ?_ | refine SQ.exit ?_ | refine AC.ret ?_ | refine AC.exit ?_ | refine AC.skip ?_ | (refine AR.split rfl (fun h => ?_) (fun h => ?_) <;> rw [h]) | (refine AC.cond rfl (fun h => ?_) (fun h => ?_) <;> rw [h]) | refine FQ.ret rfl rfl ?_ | refine FQ.normal rfl rfl ?_)
      refine ⟨n - (i + 1), _, by omega, ?_, i + 1, rfl, by have := hsp.1 hav; omega, by omega, rfl⟩
      exact Ren.mv (tabF []) rfl (fun k hk => by match k, hk with | 0, _ => exact ⟨rfl, rfl⟩) ⟨⟨rfl, rfl⟩, ⟨rfl, rfl⟩, ⟨rfl, rfl⟩, ⟨rfl, rfl⟩, ⟨rfl, rfl⟩, ⟨rfl, rfl⟩, ⟨rfl, rfl⟩, ⟨rfl, rfl⟩, trivial⟩ ⟨⟨rfl, rfl, rfl⟩, ⟨by rw [mv_env]; rfl, rfl, allNC_en _ _ _⟩, trivial⟩ rfl
    · have hd2 : decide (a > v) = true := by simp only [decide_eq_true_eq]; omega
      obtain rfl : r = i := by
        have : ¬ i < r := fun g => hav (hsp.2 g)
        omega
      repeat' (first | rw [hd] | rw [hd2] | rw [w5] | refine AR.auto rfl ?_ | refine AR.man (oke_idx (A0 := 0) (i := r) rfl rfl rfl rfl (nonE_env 3 0 (by omega)) (by omega)) rfl rfl rfl ?_ | refine AR.man (oke_ld (v := a) (j := r) rfl rfl rfl (fun jj u hu => by rw [show 0 + r * 3 + jj = r * 3 + jj from (by omega), show (Box.view 3 (enL 0 l)).cells = enL 0 l from rfl, enL_at l 0 r jj a ha (by have := (List.getElem?_eq_some_iff.1 hu).1; simpa [enC] using this), Nat.zero_add]; exact hu)) rfl rfl rfl ?_ | refine AR.man (ok_qh_whole (lo := r) (hi := r) (Nat.le_refl _) rfl rfl rfl) rfl rfl rfl ?_ | refine AR.nil ?_ | refine KF.mk ?_ | refine KT.mk (by kernel_rfl) ?_ | refine SQ.normal ?_ | refine AC.seq ?_ | refine AC.regF ?_ | refine AC.regT ?_ | refine AC.condT rfl ?_ | refine AC.condF rfl ?_ | refine AC.block ?_ | refine BQ.normal ?_ | refine BQ.ret ?_ | refine BQ.here ?_ | refine BQ.there rfl ?_ | refine SQ.ret ?_ | refine SQ.exit ?_ | refine AC.ret ?_ | refine AC.exit ?_ | refine AC.skip ?_ | (refine AR.split rfl (fun h => ?_) (fun h => ?_) <;> rw [h]) | (refine AC.cond rfl (fun h => ?_) (fun h => ?_) <;> rw [h]) | refine FQ.ret rfl rfl ?_ | refine FQ.normal rfl rfl ?_)
      all_goals rfl
  · have hrl : r = n := by
      rcases Nat.lt_or_ge r n with g | g
      · omega
      · omega
    obtain rfl : i = r := by omega
    subst hrl
    have hd : decide ((i : Int) < (i : Int)) = false := by simp
    repeat' (first | rw [hd] | refine AR.auto rfl ?_ | refine AR.man (ok_qh_whole (lo := i) (hi := i) (Nat.le_refl _) rfl rfl rfl) rfl rfl rfl ?_ | refine AR.nil ?_ | refine KF.mk ?_ | refine KT.mk (by kernel_rfl) ?_ | refine SQ.normal ?_ | refine AC.seq ?_ | refine AC.regF ?_ | refine AC.regT ?_ | refine AC.condT rfl ?_ | refine AC.condF rfl ?_ | refine AC.block ?_ | refine BQ.normal ?_ | refine BQ.ret ?_ | refine BQ.here ?_ | refine BQ.there rfl ?_ | refine SQ.ret ?_ | refine SQ.exit ?_ | refine AC.ret ?_ | refine AC.exit ?_ | refine AC.skip ?_ | (refine AR.split rfl (fun h => ?_) (fun h => ?_) <;> rw [h]) | (refine AC.cond rfl (fun h => ?_) (fun h => ?_) <;> rw [h]) | refine FQ.ret rfl rfl ?_ | refine FQ.normal rfl rfl ?_)
    all_goals rfl
def cei (p n q : Nat) : Nat := p * n / q + (if p * n % q = 0 then 0 else 1)
def tgt (p n q : Nat) : Nat := if 1 ≤ cei p n q then cei p n q else 1
theorem cei_le {p n q : Nat} (hq : 0 < q) (hp : p ≤ q) : cei p n q ≤ n := by
  unfold cei
  have h1 : p * n ≤ q * n := Nat.mul_le_mul_right n hp
  have h2 := Nat.div_add_mod (p * n) q
  have h3 := Nat.mod_lt (p * n) hq
  rcases Nat.lt_or_ge (p * n / q + (if p * n % q = 0 then 0 else 1)) (n + 1) with g | g
  · omega
  · exfalso
    by_cases h0 : p * n % q = 0
    · rw [if_pos h0] at g
      have : q * (n + 1) ≤ q * (p * n / q) := Nat.mul_le_mul_left q (by omega)
      rw [Nat.mul_add] at this; omega
    · rw [if_neg h0] at g
      have : q * n ≤ q * (p * n / q) := Nat.mul_le_mul_left q (by omega)
      omega
theorem tgt_rng {p n q : Nat} (hq : 0 < q) (hp : p ≤ q) (hn : 0 < n) : 1 ≤ tgt p n q ∧ tgt p n q ≤ n := by
  have := cei_le (n := n) hq hp
  unfold tgt
  split <;> omega
set_option maxRecDepth 100000 in
set_option maxHeartbeats 1000000 in
theorem qh_quant (l : List Int) (n p q : Nat) (u : Int) (hl : l.length = n) (hn : n ≤ 900) (hn0 : 0 < n) (hs : Asc l) (q1 : 1 ≤ q) (q2 : q ≤ 1000) (p2 : p ≤ q) (hu : l[tgt p n q - 1]? = some u) (w : World) (A : Option Addr) (c : Nat) (h : SL w A n c 3 (enL 0 l)) :
    Calls Tryz.prog 200 #[.agg #[.int .i64 ((n : Nat)), .slice A n c], .int .i64 ((p : Nat)), .int .i64 ((q : Nat))] w (fun e w' => e = .returned (.tuple #[.int .i64 u, .int .i64 0]) ∧ Below w.heap.size w w') := by
  have hpn : p * n ≤ 1000 * 900 := Nat.mul_le_mul (by omega) hn
  have hdv : p * n / q ≤ p * n := Nat.div_le_self _ _
  have hz0 : (0 : Int) ≤ ((p * n / q : Nat) : Int) := Int.natCast_nonneg _
  obtain ⟨t1, t2⟩ := tgt_rng (n := n) q1 p2 hn0
  have d1 : decide ((q : Int) < 1) = false := by simp only [decide_eq_false_iff_not]; omega
  have d2 : decide ((p : Int) < 0) = false := by simp only [decide_eq_false_iff_not]; omega
  have d3 : decide ((p : Int) > (q : Int)) = false := by simp only [decide_eq_false_iff_not]; omega
  have d4 : ((n : Int) == 0) = false := by rw [beq_eq_false_iff_ne]; omega
  have u1 : IntKind.u64.wrap (p : Int) = (p : Int) := by rw [wu64]; omega
  have u2 : IntKind.u64.wrap (n : Int) = (n : Int) := by rw [wu64]; omega
  have u3 : IntKind.u64.wrap (q : Int) = (q : Int) := by rw [wu64]; omega
  have e1 : (p : Int) * (n : Int) = ((p * n : Nat) : Int) := (Int.natCast_mul p n).symm
  refine fun_sliceF tblOK mixedP Tryz.func200 rfl (fun s => [.agg #[.int .i64 ((n : Nat)), s], .int .i64 ((p : Nat)), .int .i64 ((q : Nat))]) n 3 (enL 0 l) h (by decide) (allFC_en l 0) [.agg #[.int .i64 ((n : Nat)), .slice (some ⟨0, 0, none⟩) n 0], .int .i64 ((p : Nat)), .int .i64 ((q : Nat))] rfl (fun _ => rfl) 64 [(0, .agg #[.int .i64 ((n : Nat)), .slice (some ⟨0, 0, none⟩) n 0]), (1, .int .i64 ((p : Nat))), (2, .int .i64 ((q : Nat)))] rfl rfl (by kernel_rfl) rfl rfl _ rfl ?_
  by_cases hr : p * n % q = 0
  · have z1 : ((0 : Int) == 0 && ((p * n % q : Nat) : Int) == 0) = true := by rw [hr]; rfl
    have hc : cei p n q = p * n / q := by unfold cei; rw [if_pos hr, Nat.add_zero]
    have w1 : IntKind.i64.wrap ((p * n / q : Nat) : Int) = ((p * n / q : Nat) : Int) := IntWalk.i64_in _ (by omega)
    have hmx : (if ((p * n / q : Nat) : Int) > 1 then ((p * n / q : Nat) : Int) else 1) = ((tgt p n q : Nat) : Int) := by
      unfold tgt; rw [hc]; generalize p * n / q = z at *; split <;> split <;> omega
    repeat' (first | rw [d1] | rw [d2] | rw [d3] | rw [d4] | rw [u1] | rw [u2] | rw [u3] | rw [e1] | rw [z1] | rw [w1] | refine AR.auto rfl ?_ | refine AR.man (AOk.callS (fun s => [.agg #[.int .i64 ((n : Nat)), s]]) 0 n 3 (enL 0 l) (fun w A c h => qf_valid l n hl (by omega) hs w A c h) ent213 rfl rfl rfl (fun _ => rfl) rfl (fun _ _ h => h) (by decide) (by rw [enL_len, hl]) (allFC_en l 0) rfl rfl) rfl rfl rfl ?_ | refine AR.man (ok_nw_prod (x := (p : Int)) (y := (n : Int)) (by omega) (by omega) (by omega) (by omega) (by rw [e1]; omega) (by rw [e1]; omega) rfl rfl rfl) rfl rfl rfl ?_ | refine AR.man (okw_of rfl rfl rfl) rfl rfl rfl ?_ | refine AR.man (ok_nw_div (A := p * n) (B := q) (by omega) (by omega) (by omega) rfl rfl rfl) rfl rfl rfl ?_ | refine AR.man (AOk.bin (aneq73 _ _ _ _) rfl rfl rfl rfl rfl rfl) rfl rfl rfl ?_ | refine AR.man (ok_max hmx rfl rfl rfl rfl rfl) rfl rfl rfl ?_ | refine AR.man (AOk.callS (fun s => [s, .int .i64 ((tgt p n q : Nat)), .int .i64 0]) 0 n 3 (enL 0 l) (fun w A c h => qf_place l n (tgt p n q) hl (by omega) t1 t2 w A c h) ent218 rfl rfl rfl (fun _ => rfl) rfl (fun _ _ h => h) (by decide) (by rw [enL_len, hl]) (allFC_en l 0) rfl rfl) rfl rfl rfl ?_ | refine AR.man (oke_idx (A0 := 0) (i := tgt p n q - 1) rfl rfl rfl rfl (nonE_env 3 0 (by omega)) (by omega)) rfl rfl rfl ?_ | refine AR.man (ok_ld (A0 := 0) (u := u) rfl rfl rfl (by show (enL 0 l)[_]? = _; rw [show 0 + (tgt p n q - 1) * 3 + 0 = (tgt p n q - 1) * 3 + 0 from (by omega), enL_at l 0 (tgt p n q - 1) 0 u hu (by decide), Nat.zero_add]; rfl)) rfl rfl rfl ?_ | refine AR.nil ?_ | refine KF.mk ?_ | refine KT.mk (by kernel_rfl) ?_ | refine SQ.normal ?_ | refine AC.seq ?_ | refine AC.regF ?_ | refine AC.regT ?_ | refine AC.condT rfl ?_ | refine AC.condF rfl ?_ | refine AC.block ?_ | refine BQ.normal ?_ | refine BQ.ret ?_ | refine BQ.here ?_ | refine BQ.there rfl ?_ | refine SQ.ret ?_ | refine SQ.exit ?_ | refine AC.ret ?_ | refine AC.exit ?_ | refine AC.skip ?_ | (refine AR.split rfl (fun h => ?_) (fun h => ?_) <;> rw [h]) | (refine AC.cond rfl (fun h => ?_) (fun h => ?_) <;> rw [h]) | refine FQ.ret rfl rfl ?_ | refine FQ.normal rfl rfl ?_)
    all_goals rfl
  · have z1 : ((0 : Int) == 0 && ((p * n % q : Nat) : Int) == 0) = false := by rw [show (((p * n % q : Nat) : Int) == 0) = false from beq_eq_false_iff_ne.2 (fun h => hr (Int.ofNat_eq_zero.1 h))]; rfl
    have hc : cei p n q = p * n / q + 1 := by unfold cei; rw [if_neg hr]
    have w0 : IntKind.u64.wrap (((p * n / q : Nat) : Int) + 1) = ((p * n / q + 1 : Nat) : Int) := by rw [wu64]; omega
    have w1 : IntKind.i64.wrap ((p * n / q + 1 : Nat) : Int) = ((p * n / q + 1 : Nat) : Int) := IntWalk.i64_in _ (by omega)
    have hmx : (if ((p * n / q + 1 : Nat) : Int) > 1 then ((p * n / q + 1 : Nat) : Int) else 1) = ((tgt p n q : Nat) : Int) := by
      unfold tgt; rw [hc]; generalize p * n / q = z at *; split <;> split <;> omega
    repeat' (first | rw [d1] | rw [d2] | rw [d3] | rw [d4] | rw [u1] | rw [u2] | rw [u3] | rw [e1] | rw [z1] | rw [w0] | rw [w1] | refine AR.auto rfl ?_ | refine AR.man (AOk.callS (fun s => [.agg #[.int .i64 ((n : Nat)), s]]) 0 n 3 (enL 0 l) (fun w A c h => qf_valid l n hl (by omega) hs w A c h) ent213 rfl rfl rfl (fun _ => rfl) rfl (fun _ _ h => h) (by decide) (by rw [enL_len, hl]) (allFC_en l 0) rfl rfl) rfl rfl rfl ?_ | refine AR.man (ok_nw_prod (x := (p : Int)) (y := (n : Int)) (by omega) (by omega) (by omega) (by omega) (by rw [e1]; omega) (by rw [e1]; omega) rfl rfl rfl) rfl rfl rfl ?_ | refine AR.man (okw_of rfl rfl rfl) rfl rfl rfl ?_ | refine AR.man (ok_nw_div (A := p * n) (B := q) (by omega) (by omega) (by omega) rfl rfl rfl) rfl rfl rfl ?_ | refine AR.man (AOk.bin (aneq73 _ _ _ _) rfl rfl rfl rfl rfl rfl) rfl rfl rfl ?_ | refine AR.man (ok_max hmx rfl rfl rfl rfl rfl) rfl rfl rfl ?_ | refine AR.man (AOk.callS (fun s => [s, .int .i64 ((tgt p n q : Nat)), .int .i64 0]) 0 n 3 (enL 0 l) (fun w A c h => qf_place l n (tgt p n q) hl (by omega) t1 t2 w A c h) ent218 rfl rfl rfl (fun _ => rfl) rfl (fun _ _ h => h) (by decide) (by rw [enL_len, hl]) (allFC_en l 0) rfl rfl) rfl rfl rfl ?_ | refine AR.man (oke_idx (A0 := 0) (i := tgt p n q - 1) rfl rfl rfl rfl (nonE_env 3 0 (by omega)) (by omega)) rfl rfl rfl ?_ | refine AR.man (ok_ld (A0 := 0) (u := u) rfl rfl rfl (by show (enL 0 l)[_]? = _; rw [show 0 + (tgt p n q - 1) * 3 + 0 = (tgt p n q - 1) * 3 + 0 from (by omega), enL_at l 0 (tgt p n q - 1) 0 u hu (by decide), Nat.zero_add]; rfl)) rfl rfl rfl ?_ | refine AR.nil ?_ | refine KF.mk ?_ | refine KT.mk (by kernel_rfl) ?_ | refine SQ.normal ?_ | refine AC.seq ?_ | refine AC.regF ?_ | refine AC.regT ?_ | refine AC.condT rfl ?_ | refine AC.condF rfl ?_ | refine AC.block ?_ | refine BQ.normal ?_ | refine BQ.ret ?_ | refine BQ.here ?_ | refine BQ.there rfl ?_ | refine SQ.ret ?_ | refine SQ.exit ?_ | refine AC.ret ?_ | refine AC.exit ?_ | refine AC.skip ?_ | (refine AR.split rfl (fun h => ?_) (fun h => ?_) <;> rw [h]) | (refine AC.cond rfl (fun h => ?_) (fun h => ?_) <;> rw [h]) | refine FQ.ret rfl rfl ?_ | refine FQ.normal rfl rfl ?_)
    all_goals rfl
set_option maxRecDepth 100000 in
theorem qh_quant0 (p q : Nat) (q1 : 1 ≤ q) (q2 : q ≤ 1000) (p2 : p ≤ q) (w : World) (A : Option Addr) (c : Nat) (h : SL w A 0 c 3 (enL 0 [])) :
    Calls Tryz.prog 200 #[.agg #[.int .i64 ((0 : Nat)), .slice A 0 c], .int .i64 ((p : Nat)), .int .i64 ((q : Nat))] w (fun e w' => e = .returned (.tuple #[.int .i64 0, .int .i64 7]) ∧ Below w.heap.size w w') := by
  have d1 : decide ((q : Int) < 1) = false := by simp only [decide_eq_false_iff_not]; omega
  have d2 : decide ((p : Int) < 0) = false := by simp only [decide_eq_false_iff_not]; omega
  have d3 : decide ((p : Int) > (q : Int)) = false := by simp only [decide_eq_false_iff_not]; omega
  refine fun_sliceF tblOK mixedP Tryz.func200 rfl (fun s => [.agg #[.int .i64 ((0 : Nat)), s], .int .i64 ((p : Nat)), .int .i64 ((q : Nat))]) 0 3 (enL 0 []) h (by decide) (allFC_en [] 0) [.agg #[.int .i64 ((0 : Nat)), .slice (some ⟨0, 0, none⟩) 0 0], .int .i64 ((p : Nat)), .int .i64 ((q : Nat))] rfl (fun _ => rfl) 64 [(0, .agg #[.int .i64 ((0 : Nat)), .slice (some ⟨0, 0, none⟩) 0 0]), (1, .int .i64 ((p : Nat))), (2, .int .i64 ((q : Nat)))] rfl rfl (by kernel_rfl) rfl rfl _ rfl ?_
  repeat' (first | rw [d1] | rw [d2] | rw [d3] | refine AR.auto rfl ?_ | refine AR.man (AOk.callS (fun s => [.agg #[.int .i64 ((0 : Nat)), s]]) 0 0 3 (enL 0 []) (fun w A c h => qf_valid [] 0 rfl (by omega) .nil w A c h) ent213 rfl rfl rfl (fun _ => rfl) rfl (fun _ _ h => h) (by decide) (rfl) (allFC_en [] 0) rfl rfl) rfl rfl rfl ?_ | refine AR.nil ?_ | refine KF.mk ?_ | refine KT.mk (by kernel_rfl) ?_ | refine SQ.normal ?_ | refine AC.seq ?_ | refine AC.regF ?_ | refine AC.regT ?_ | refine AC.condT rfl ?_ | refine AC.condF rfl ?_ | refine AC.block ?_ | refine BQ.normal ?_ | refine BQ.ret ?_ | refine BQ.here ?_ | refine BQ.there rfl ?_ | refine SQ.ret ?_ | refine SQ.exit ?_ | refine AC.ret ?_ | refine AC.exit ?_ | refine AC.skip ?_ | (refine AR.split rfl (fun h => ?_) (fun h => ?_) <;> rw [h]) | (refine AC.cond rfl (fun h => ?_) (fun h => ?_) <;> rw [h]) | refine FQ.ret rfl rfl ?_ | refine FQ.normal rfl rfl ?_)
  all_goals rfl
set_option maxRecDepth 100000 in
theorem qh_bits (a : Nat) (ha : a < 9223372036854775808) (w : World) : Calls Tryz.prog 187 #[.int .i64 ((a : Nat))] w (fun e w' => e = .returned (.int .i64 (Lib.bitLen a)) ∧ Below w.heap.size w w') := by
  have hd : decide ((a : Int) < 0) = false := by simp
  have hw : IntKind.u64.wrap (a : Int) = a := by rw [wu64]; omega
  refine fun_flat tblOK mixedP Tryz.func187 rfl [.int .i64 ((a : Nat))] w 8 [(0, .int .i64 ((a : Nat)))] rfl rfl (by kernel_rfl) rfl rfl rfl _ rfl ?_
  repeat' (first | rw [hd] | rw [hw] | refine AR.auto rfl ?_ | refine AR.man (ok_nb_len (x := (a : Int)) (by omega) (by omega) rfl rfl rfl) rfl rfl rfl ?_ | refine AR.nil ?_ | refine KF.mk ?_ | refine KT.mk (by kernel_rfl) ?_ | refine SQ.normal ?_ | refine AC.seq ?_ | refine AC.regF ?_ | refine AC.regT ?_ | refine AC.condT rfl ?_ | refine AC.condF rfl ?_ | refine AC.block ?_ | refine BQ.normal ?_ | refine BQ.ret ?_ | refine BQ.here ?_ | refine BQ.there rfl ?_ | refine SQ.ret ?_ | refine SQ.exit ?_ | refine AC.ret ?_ | refine AC.exit ?_ | refine AC.skip ?_ | (refine AR.split rfl (fun h => ?_) (fun h => ?_) <;> rw [h]) | (refine AC.cond rfl (fun h => ?_) (fun h => ?_) <;> rw [h]) | refine FQ.ret rfl rfl ?_ | refine FQ.normal rfl rfl ?_)
  all_goals rfl
theorem ok_qh_bits {a : Nat} (ha : a < 9223372036854775808) {st : St} {o : Oper} {cl : Call} (ho : o.op = .call cl) (hc : cl.callee = .value (.func 187)) (hargs : evs st cl.args.toList = some [.int .i64 ((a : Nat))]) : AOk Tryz.prog st o ⟨rq st cl.args.toList, []⟩ ⟨.int .i64 (Lib.bitLen a), [], []⟩ :=
  AOk.call (fun w => qh_bits a ha w) ent187 ho hc hargs rfl rfl
set_option maxRecDepth 100000 in
theorem qh_good (w0 k cap now : Int) (h1 : 1 ≤ w0) (h2 : w0 ≤ 1048576) (h3 : 1 ≤ k) (h4 : k ≤ 64) (h5 : 1 ≤ cap) (h6 : cap ≤ 65536) (h7 : 0 ≤ now) (h8 : now ≤ 16777216) (w : World) : Calls Tryz.prog 93 #[.int .i64 w0, .int .i64 k, .int .i64 cap, .int .i64 now] w (fun e w' => e = .returned (.bool true) ∧ Below w.heap.size w w') := by
  have d0 : decide (w0 ≥ 1) = true := by simp only [decide_eq_true_eq]; omega
  have d1 : decide (w0 ≤ 1048576) = true := by simp only [decide_eq_true_eq]; omega
  have d2 : decide (k ≥ 1) = true := by simp only [decide_eq_true_eq]; omega
  have d3 : decide (k ≤ 64) = true := by simp only [decide_eq_true_eq]; omega
  have d4 : decide (cap ≥ 1) = true := by simp only [decide_eq_true_eq]; omega
  have d5 : decide (cap ≤ 65536) = true := by simp only [decide_eq_true_eq]; omega
  have d6 : decide (now ≥ 0) = true := by simp only [decide_eq_true_eq]; omega
  have d7 : decide (now ≤ 16777216) = true := by simp only [decide_eq_true_eq]; omega
  refine fun_flat tblOK mixedP Tryz.func93 rfl [.int .i64 w0, .int .i64 k, .int .i64 cap, .int .i64 now] w 39 [(0, .int .i64 w0), (1, .int .i64 k), (2, .int .i64 cap), (3, .int .i64 now)] rfl rfl (by kernel_rfl) rfl rfl rfl _ rfl ?_
  repeat' (first | rw [d0] | rw [d1] | rw [d2] | rw [d3] | rw [d4] | rw [d5] | rw [d6] | rw [d7] | refine AR.auto rfl ?_ | refine AR.nil ?_ | refine KF.mk ?_ | refine KT.mk (by kernel_rfl) ?_ | refine SQ.normal ?_ | refine AC.seq ?_ | refine AC.regF ?_ | refine AC.regT ?_ | refine AC.condT rfl ?_ | refine AC.condF rfl ?_ | refine AC.block ?_ | refine BQ.normal ?_ | refine BQ.ret ?_ | refine BQ.here ?_ | refine BQ.there rfl ?_ | refine SQ.ret ?_ | refine SQ.exit ?_ | refine AC.ret ?_ | refine AC.exit ?_ | refine AC.skip ?_ | (refine AR.split rfl (fun h => ?_) (fun h => ?_) <;> rw [h]) | (refine AC.cond rfl (fun h => ?_) (fun h => ?_) <;> rw [h]) | refine FQ.ret rfl rfl ?_ | refine FQ.normal rfl rfl ?_)
  rfl
theorem ok_qh_good {w0 k cap now : Int} (h1 : 1 ≤ w0) (h2 : w0 ≤ 1048576) (h3 : 1 ≤ k) (h4 : k ≤ 64) (h5 : 1 ≤ cap) (h6 : cap ≤ 65536) (h7 : 0 ≤ now) (h8 : now ≤ 16777216) {st : St} {o : Oper} {cl : Call} (ho : o.op = .call cl) (hc : cl.callee = .value (.func 93)) (hargs : evs st cl.args.toList = some [.int .i64 w0, .int .i64 k, .int .i64 cap, .int .i64 now]) : AOk Tryz.prog st o ⟨rq st cl.args.toList, []⟩ ⟨.bool true, [], []⟩ :=
  AOk.call (fun w => qh_good w0 k cap now h1 h2 h3 h4 h5 h6 h7 h8 w) ent93 ho hc hargs rfl rfl
set_option maxRecDepth 100000 in
theorem qh_size (k cap sz : Nat) (h3 : 1 ≤ k) (h4 : k ≤ 64) (h5 : 1 ≤ cap) (h6 : cap ≤ 65536) (hz : 2 * k * (Lib.bitLen cap + 2) = sz) (hs : sz ≤ 65536) (w : World) : Calls Tryz.prog 129 #[.int .i64 ((k : Nat)), .int .i64 ((cap : Nat))] w (fun e w' => e = .returned (.int .i64 ((sz : Nat))) ∧ Below w.heap.size w w') := by
  have hb : Lib.bitLen cap ≤ 17 := Lib.bitLen_le cap 17 (by decide) (by omega)
  have w1 : IntKind.i64.wrap (2 * (k : Int)) = ((2 * k : Nat) : Int) := by rw [IntWalk.i64_in _ (by omega)]; omega
  have w2 : IntKind.i64.wrap (((Lib.bitLen cap : Nat) : Int) + 2) = ((Lib.bitLen cap + 2 : Nat) : Int) := by rw [IntWalk.i64_in _ (by omega)]; omega
  have w3 : IntKind.i64.wrap (((2 * k : Nat) : Int) * ((Lib.bitLen cap + 2 : Nat) : Int)) = (sz : Int) := by rw [← Int.natCast_mul, hz, IntWalk.i64_in _ (by omega)]
  refine fun_flat tblOK mixedP Tryz.func129 rfl [.int .i64 ((k : Nat)), .int .i64 ((cap : Nat))] w 15 [(0, .int .i64 ((k : Nat))), (1, .int .i64 ((cap : Nat)))] rfl rfl (by kernel_rfl) rfl rfl rfl _ rfl ?_
  repeat' (first | rw [w1] | rw [w2] | rw [w3] | refine AR.auto rfl ?_ | refine AR.man (ok_qh_good (w0 := 1) (k := (k : Int)) (cap := (cap : Int)) (now := 0) (by omega) (by omega) (by omega) (by omega) (by omega) (by omega) (by omega) (by omega) rfl rfl rfl) rfl rfl rfl ?_ | refine AR.man (ok_qh_bits (a := cap) (by omega) rfl rfl rfl) rfl rfl rfl ?_ | refine AR.nil ?_ | refine KF.mk ?_ | refine KT.mk (by kernel_rfl) ?_ | refine SQ.normal ?_ | refine AC.seq ?_ | refine AC.regF ?_ | refine AC.regT ?_ | refine AC.condT rfl ?_ | refine AC.condF rfl ?_ | refine AC.block ?_ | refine BQ.normal ?_ | refine BQ.ret ?_ | refine BQ.here ?_ | refine BQ.there rfl ?_ | refine SQ.ret ?_ | refine SQ.exit ?_ | refine AC.ret ?_ | refine AC.exit ?_ | refine AC.skip ?_ | (refine AR.split rfl (fun h => ?_) (fun h => ?_) <;> rw [h]) | (refine AC.cond rfl (fun h => ?_) (fun h => ?_) <;> rw [h]) | refine FQ.ret rfl rfl ?_ | refine FQ.normal rfl rfl ?_)
  all_goals rfl
theorem ok_qh_size {k cap sz : Nat} (h3 : 1 ≤ k) (h4 : k ≤ 64) (h5 : 1 ≤ cap) (h6 : cap ≤ 65536) (hz : 2 * k * (Lib.bitLen cap + 2) = sz) (hs : sz ≤ 65536) {st : St} {o : Oper} {cl : Call} (ho : o.op = .call cl) (hc : cl.callee = .value (.func 129)) (hargs : evs st cl.args.toList = some [.int .i64 ((k : Nat)), .int .i64 ((cap : Nat))]) : AOk Tryz.prog st o ⟨rq st cl.args.toList, []⟩ ⟨.int .i64 ((sz : Nat)), [], []⟩ :=
  AOk.call (fun w => qh_size k cap sz h3 h4 h5 h6 hz hs w) ent129 ho hc hargs rfl rfl
end Go.Proofs.YtbageimconenlaaGreat
