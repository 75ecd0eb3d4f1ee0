/- The reference: divisors, rational numbers, the spread of items. -/
import Derived.Test.YtbageimconenlaaGreatNW
namespace Go.Proofs.YtbageimconenlaaGreat
open Go.RowKit En
set_option linter.unusedVariables false
set_option maxRecDepth 100000 in
theorem nq_gcd (A B : Nat) (hA : A < 9223372036854775808) (hB : B < 9223372036854775808) (w : World) : Calls Tryz.prog 207 #[.agg #[.int .u64 0, .int .u64 (A : Nat)], .agg #[.int .u64 0, .int .u64 (B : Nat)]] w (fun e w' => e = .returned (.agg #[.int .u64 0, .int .u64 ((Nat.gcd A B : Nat))]) ∧ Below w.heap.size w w') := by
  refine fun_flat tblOK mixedP Tryz.func207 rfl [.agg #[.int .u64 0, .int .u64 (A : Nat)], .agg #[.int .u64 0, .int .u64 (B : Nat)]] w 21 [(0, .agg #[.int .u64 0, .int .u64 (A : Nat)]), (1, .agg #[.int .u64 0, .int .u64 (B : Nat)])] rfl rfl (by kernel_rfl) rfl rfl rfl _ rfl ?_
  repeat' (first
    | refine AR.auto rfl ?_
    | refine AR.nil ?_
    | refine KF.mk ?_
    | refine KT.mk (by kernel_rfl) ?_
    | refine SQ.normal ?_
    | refine AC.seq ?_
    | refine AC.regF ?_
    | refine AC.regT ?_
    | refine AC.condT rfl ?_
    | refine AC.condF rfl ?_
    | refine AC.block ?_
    | refine BQ.normal ?_
    | refine BQ.ret ?_
    | refine BQ.here ?_
    | refine BQ.there rfl ?_
    | refine SQ.ret ?_
    | refine SQ.exit ?_
    | refine AC.ret ?_
    | refine AC.exit ?_
    | refine AC.skip ?_
    | (refine AR.split rfl (fun h => ?_) (fun h => ?_) <;> rw [h])
    | (refine AC.cond rfl (fun h => ?_) (fun h => ?_) <;> rw [h])
    | refine FQ.ret rfl rfl ?_
    | refine FQ.normal rfl rfl ?_)
  refine AC.loop (fun m s => ∃ x y : Nat, m = y ∧ x < 9223372036854775808 ∧ y < 9223372036854775808 ∧ Nat.gcd x y = Nat.gcd A B ∧ s = ⟨[(4, .pointer (some ⟨2, 0, none⟩)), (3, .pointer (some ⟨1, 0, none⟩)), (2, .pointer (some ⟨0, 0, none⟩))], [(2, .row 73 [.int .u64 0, .int .u64 0]), (1, .row 73 [.int .u64 0, .int .u64 (y : Nat)]), (0, .row 73 [.int .u64 0, .int .u64 (x : Nat)])], [2, 1, 0], 21⟩) B _ ?_ ⟨A, B, rfl, hA, hB, rfl, rfl⟩ ?_
  · exact Ren.mv (tabF []) rfl (fun k hk => absurd hk (Nat.not_lt_zero _)) ⟨⟨rfl, rfl⟩, ⟨rfl, rfl⟩, ⟨rfl, rfl⟩, trivial⟩ ⟨⟨rfl, rfl, rfl⟩, ⟨rfl, rfl, rfl⟩, ⟨rfl, rfl, rfl⟩, trivial⟩ rfl
  intro m s hi
  obtain ⟨x, y, rfl, hx, hy, hg, rfl⟩ := hi
  by_cases h0 : m = 0
  · subst h0
    repeat' (first
      | refine AR.auto rfl ?_
      | refine AR.man (AOk.bin (aneq73 _ _ _ _) rfl rfl rfl rfl rfl rfl) rfl rfl rfl ?_
      | refine AR.nil ?_
      | refine KF.mk ?_
      | refine KT.mk (by kernel_rfl) ?_
      | refine SQ.normal ?_
      | refine AC.seq ?_
      | refine AC.regF ?_
      | refine AC.regT ?_
      | refine AC.condT rfl ?_
      | refine AC.condF rfl ?_
      | refine AC.block ?_
      | refine BQ.normal ?_
      | refine BQ.ret ?_
      | refine BQ.here ?_
      | refine BQ.there rfl ?_
      | refine SQ.ret ?_
      | refine SQ.exit ?_
      | refine AC.ret ?_
      | refine AC.exit ?_
      | refine AC.skip ?_
      | (refine AR.split rfl (fun h => ?_) (fun h => ?_) <;> rw [h])
      | (refine AC.cond rfl (fun h => ?_) (fun h => ?_) <;> rw [h])
      | refine FQ.ret rfl rfl ?_
      | refine FQ.normal rfl rfl ?_)
    all_goals (rw [← hg, Nat.gcd_zero_right]; rfl)
  · have hz : ((0 : Int) == 0 && (m : Int) == 0) = false := by simp; omega
    repeat' (first
      | rw [hz]
      | refine AR.auto rfl ?_
      | refine AR.man (AOk.bin (aneq73 _ _ _ _) rfl rfl rfl rfl rfl rfl) rfl rfl rfl ?_
      | refine AR.man (ok_nq_div (A := x) (B := m) hx (by omega) hy rfl rfl rfl) rfl rfl rfl ?_
      | refine AR.nil ?_
      | refine KF.mk ?_
      | refine KT.mk (by kernel_rfl) ?_
      | refine SQ.normal ?_
      | refine AC.seq ?_
      | refine AC.regF ?_
      | refine AC.regT ?_
      | refine AC.condT rfl ?_
      | refine AC.condF rfl ?_
      | refine AC.block ?_
      | refine BQ.normal ?_
      | refine BQ.ret ?_
      | refine BQ.here ?_
      | refine BQ.there rfl ?_
      | refine SQ.ret ?_
      | refine SQ.exit ?_
      | refine AC.ret ?_
      | refine AC.exit ?_
      | refine AC.skip ?_
      | (refine AR.split rfl (fun h => ?_) (fun h => ?_) <;> rw [h])
      | (refine AC.cond rfl (fun h => ?_) (fun h => ?_) <;> rw [h])
      | refine FQ.ret rfl rfl ?_
      | refine FQ.normal rfl rfl ?_)
    refine ⟨x % m, _, Nat.mod_lt _ (by omega), ?_, m, x % m, rfl, hy, by have := Nat.mod_lt x (show 0 < m by omega); omega, by rw [← hg, Nat.gcd_comm, ← Nat.gcd_rec, Nat.gcd_comm], rfl⟩
    exact Ren.mv (tabF []) rfl (fun k hk => absurd hk (Nat.not_lt_zero _)) ⟨⟨rfl, rfl⟩, ⟨rfl, rfl⟩, ⟨rfl, rfl⟩, trivial⟩ ⟨⟨rfl, rfl, rfl⟩, ⟨rfl, rfl, rfl⟩, ⟨rfl, rfl, rfl⟩, trivial⟩ rfl
theorem ok_nq_gcd {A B : Nat} (hA : A < 9223372036854775808) (hB : B < 9223372036854775808) {st : St} {o : Oper} {cl : Call} (ho : o.op = .call cl) (hc : cl.callee = .value (.func 207)) (hargs : evs st cl.args.toList = some [.agg #[.int .u64 0, .int .u64 (A : Nat)], .agg #[.int .u64 0, .int .u64 (B : Nat)]]) : AOk Tryz.prog st o ⟨rq st cl.args.toList, []⟩ ⟨.agg #[.int .u64 0, .int .u64 ((Nat.gcd A B : Nat))], [], []⟩ :=
  AOk.call (fun w => nq_gcd A B hA hB w) ent207 ho hc hargs rfl rfl
set_option maxRecDepth 100000 in
theorem nq_red (n d : Nat) (hn : n < 9223372036854775808) (h0 : 0 < d) (hd : d < 9223372036854775808) (w : World) : Calls Tryz.prog 163 #[.bool false, .agg #[.int .u64 0, .int .u64 (n : Nat)], .agg #[.int .u64 0, .int .u64 (d : Nat)]] w (fun e w' => e = .returned (.tuple #[.agg #[.int .i64 ((n / Nat.gcd n d : Nat)), .int .i64 ((d / Nat.gcd n d : Nat))], .bool true]) ∧ Below w.heap.size w w') := by
  have hg : 0 < Nat.gcd n d := Nat.gcd_pos_of_pos_right _ h0
  have hg2 : Nat.gcd n d < 9223372036854775808 := Nat.lt_of_le_of_lt (Nat.gcd_le_right _ h0) hd
  have hn2 : n / Nat.gcd n d < 9223372036854775808 := Nat.lt_of_le_of_lt (Nat.div_le_self _ _) hn
  have hd2 : d / Nat.gcd n d < 9223372036854775808 := Nat.lt_of_le_of_lt (Nat.div_le_self _ _) hd
  have g1 : decide (((d / Nat.gcd n d : Nat) : Int) ≥ 9223372036854775808) = false := by simp only [decide_eq_false_iff_not]; omega
  have g2 : decide (((n / Nat.gcd n d : Nat) : Int) > 9223372036854775808) = false := by simp only [decide_eq_false_iff_not]; omega
  have g3 : (((n / Nat.gcd n d : Nat) : Int) == 9223372036854775808) = false := by rw [beq_eq_false_iff_ne]; omega
  have gz : ∀ z : Nat, z < 9223372036854775808 → IntKind.i64.wrap (z : Int) = (z : Int) := fun z hz => IntWalk.i64_in _ (by omega)
  have g4 : IntKind.i64.wrap ((n / Nat.gcd n d : Nat) : Int) = ((n / Nat.gcd n d : Nat) : Int) := gz _ hn2
  have g5 : IntKind.i64.wrap ((d / Nat.gcd n d : Nat) : Int) = ((d / Nat.gcd n d : Nat) : Int) := gz _ hd2
  refine fun_flat tblOK mixedP Tryz.func163 rfl [.bool false, .agg #[.int .u64 0, .int .u64 (n : Nat)], .agg #[.int .u64 0, .int .u64 (d : Nat)]] w 84 [(0, .bool false), (1, .agg #[.int .u64 0, .int .u64 (n : Nat)]), (2, .agg #[.int .u64 0, .int .u64 (d : Nat)])] rfl rfl (by kernel_rfl) rfl rfl rfl _ rfl ?_
  repeat' (first
    | rw [g1]
    | rw [g2]
    | rw [g3]
    | rw [g4]
    | rw [g5]
    | refine AR.auto rfl ?_
    | refine AR.man (ok_nq_gcd (A := n) (B := d) hn hd rfl rfl rfl) rfl rfl rfl ?_
    | refine AR.man (ok_nq_div (A := n) (B := Nat.gcd n d) hn hg hg2 rfl rfl rfl) rfl rfl rfl ?_
    | refine AR.man (ok_nq_div (A := d) (B := Nat.gcd n d) hd hg hg2 rfl rfl rfl) rfl rfl rfl ?_
    | refine AR.nil ?_
    | refine KF.mk ?_
    | refine KT.mk (by kernel_rfl) ?_
    | refine SQ.normal ?_
    | refine AC.seq ?_
    | refine AC.regF ?_
    | refine AC.regT ?_
    | refine AC.condT rfl ?_
    | refine AC.condF rfl ?_
    | refine AC.block ?_
    | refine BQ.normal ?_
    | refine BQ.ret ?_
    | refine BQ.here ?_
    | refine BQ.there rfl ?_
    | refine SQ.ret ?_
    | refine SQ.exit ?_
    | refine AC.ret ?_
    | refine AC.exit ?_
    | refine AC.skip ?_
    | (refine AR.split rfl (fun h => ?_) (fun h => ?_) <;> rw [h])
    | (refine AC.cond rfl (fun h => ?_) (fun h => ?_) <;> rw [h])
    | refine FQ.ret rfl rfl ?_
    | refine FQ.normal rfl rfl ?_)
  all_goals rfl
theorem ok_nq_red {n d : Nat} (hn : n < 9223372036854775808) (h0 : 0 < d) (hd : d < 9223372036854775808) {st : St} {o : Oper} {cl : Call} (ho : o.op = .call cl) (hc : cl.callee = .value (.func 163)) (hargs : evs st cl.args.toList = some [.bool false, .agg #[.int .u64 0, .int .u64 (n : Nat)], .agg #[.int .u64 0, .int .u64 (d : Nat)]]) : AOk Tryz.prog st o ⟨rq st cl.args.toList, []⟩ ⟨.tuple #[.agg #[.int .i64 ((n / Nat.gcd n d : Nat)), .int .i64 ((d / Nat.gcd n d : Nat))], .bool true], [], []⟩ :=
  AOk.call (fun w => nq_red n d hn h0 hd w) ent163 ho hc hargs rfl rfl
set_option maxRecDepth 100000 in
theorem nq_make (n d : Nat) (hn : n < 9223372036854775808) (h0 : 0 < d) (hd : d < 9223372036854775808) (w : World) : Calls Tryz.prog 76 #[.int .i64 (n : Nat), .int .i64 (d : Nat)] w (fun e w' => e = .returned (.tuple #[.agg #[.int .i64 ((n / Nat.gcd n d : Nat)), .int .i64 ((d / Nat.gcd n d : Nat))], .bool true]) ∧ Below w.heap.size w w') := by
  have g0 : ((d : Int) == 0) = false := by rw [beq_eq_false_iff_ne]; omega
  have g1 : decide ((n : Int) < 0) = false := by simp
  have g2 : decide ((d : Int) < 0) = false := by simp
  refine fun_flat tblOK mixedP Tryz.func76 rfl [.int .i64 (n : Nat), .int .i64 (d : Nat)] w 27 [(0, .int .i64 (n : Nat)), (1, .int .i64 (d : Nat))] rfl rfl (by kernel_rfl) rfl rfl rfl _ rfl ?_
  repeat' (first
    | rw [g0]
    | rw [g1]
    | rw [g2]
    | refine AR.auto rfl ?_
    | refine AR.man (ok_nq_abs (a := n) hn rfl rfl rfl) rfl rfl rfl ?_
    | refine AR.man (ok_nq_abs (a := d) hd rfl rfl rfl) rfl rfl rfl ?_
    | refine AR.man (ok_nq_of (x := n) rfl rfl rfl) rfl rfl rfl ?_
    | refine AR.man (ok_nq_of (x := d) rfl rfl rfl) rfl rfl rfl ?_
    | refine AR.man (ok_nq_red (n := n) (d := d) hn h0 hd rfl rfl rfl) rfl rfl rfl ?_
    | refine AR.nil ?_
    | refine KF.mk ?_
    | refine KT.mk (by kernel_rfl) ?_
    | refine SQ.normal ?_
    | refine AC.seq ?_
    | refine AC.regF ?_
    | refine AC.regT ?_
    | refine AC.condT rfl ?_
    | refine AC.condF rfl ?_
    | refine AC.block ?_
    | refine BQ.normal ?_
    | refine BQ.ret ?_
    | refine BQ.here ?_
    | refine BQ.there rfl ?_
    | refine SQ.ret ?_
    | refine SQ.exit ?_
    | refine AC.ret ?_
    | refine AC.exit ?_
    | refine AC.skip ?_
    | (refine AR.split rfl (fun h => ?_) (fun h => ?_) <;> rw [h])
    | (refine AC.cond rfl (fun h => ?_) (fun h => ?_) <;> rw [h])
    | refine FQ.ret rfl rfl ?_
    | refine FQ.normal rfl rfl ?_)
  all_goals rfl
theorem ok_nq_make {n d : Nat} (hn : n < 9223372036854775808) (h0 : 0 < d) (hd : d < 9223372036854775808) {st : St} {o : Oper} {cl : Call} (ho : o.op = .call cl) (hc : cl.callee = .value (.func 76)) (hargs : evs st cl.args.toList = some [.int .i64 (n : Nat), .int .i64 (d : Nat)]) : AOk Tryz.prog st o ⟨rq st cl.args.toList, []⟩ ⟨.tuple #[.agg #[.int .i64 ((n / Nat.gcd n d : Nat)), .int .i64 ((d / Nat.gcd n d : Nat))], .bool true], [], []⟩ :=
  AOk.call (fun w => nq_make n d hn h0 hd w) ent76 ho hc hargs rfl rfl
theorem vals_take (l : List It) (i : Nat) : vals (l.take i) = (vals l).take i := by unfold vals; rw [List.map_take]
theorem vals_takeS {l : List It} {i : Nat} {x : It} (h : l[i]? = some x) : vals (l.take (i + 1)) = vals (l.take i) ++ [x.v] := by
  rw [List.take_add_one, h]; exact vals_app _ x
theorem topI_bd (l : List It) (n : Nat) (hl : l.length = n) (hn : n ≤ 100) (hv : ∀ x ∈ l, -4096 ≤ x.v ∧ x.v ≤ 4096) : 0 ≤ topI (vals l) ∧ topI (vals l) ≤ 167772160000 := by
  have h1 := topI_nonneg (vals l)
  have h2 := fitsL (-4096) 4096 (by decide) (by decide) (by decide) (vals l) (by rw [vals_len]; omega) fun v hm => by
    obtain ⟨x, hx, e⟩ := List.mem_map.1 hm
    subst e
    exact hv x hx
  have h3 := h2.bd
  unfold topI at h1 ⊢
  omega
theorem difI_bd {z : Int} (hz : -4096 ≤ z ∧ z ≤ 4096) : ∀ l : List Int, (∀ y ∈ l, -4096 ≤ y ∧ y ≤ 4096) → 0 ≤ difI z l ∧ difI z l ≤ 67108864 * (l.length : Int)
  | [], _ => ⟨Int.le_refl _, Int.le_refl _⟩
  | y :: l, h => by
    have ih := difI_bd hz l fun u hu => h u (List.mem_cons_of_mem _ hu)
    have hy := h y List.mem_cons_self
    have h5 := sq0 (z - y)
    have h6 : 0 ≤ (8192 - (z - y)) * (8192 + (z - y)) := Int.mul_nonneg (by omega) (by omega)
    have h7 : (8192 - (z - y)) * (8192 + (z - y)) = 67108864 - (z - y) * (z - y) := by grind
    rw [difI, List.length_cons]
    omega
set_option maxRecDepth 100000 in
set_option maxHeartbeats 1000000 in
theorem nq_spread (l : List It) (n D : Nat) (hl : l.length = n) (hn : n ≤ 100) (hv : ∀ x ∈ l, -4096 ≤ x.v ∧ x.v ≤ 4096) (h0 : 0 < n) (hD : topI (vals l) = D) (w : World) (A : Option Addr) (c : Nat) (h : SL w A n c 2 (itL l)) :
    Calls Tryz.prog 20 #[.slice A n c] w (fun e w' => e = .returned (.agg #[.int .i64 ((D / Nat.gcd D n : Nat)), .int .i64 ((n / Nat.gcd D n : Nat))]) ∧ Below w.heap.size w w') := by
  have hDb := topI_bd l n hl hn hv
  have hTB : ∀ i, i ≤ n → 0 ≤ topI (vals (l.take i)) ∧ topI (vals (l.take i)) ≤ 167772160000 := fun i hi => topI_bd (l.take i) i (by rw [List.length_take]; omega) (by omega) fun x hx => hv x (List.mem_of_mem_take hx)
  refine fun_sliceF tblOK mixedP Tryz.func20 rfl (fun s => [s]) n 2 (itL l) h (by decide) (allFC_it l) [.slice (some ⟨0, 0, none⟩) n 0] rfl (fun _ => rfl) 45 [(0, .slice (some ⟨0, 0, none⟩) n 0)] rfl rfl (by kernel_rfl) rfl rfl _ rfl ?_
  repeat' (first
    | refine AR.auto rfl ?_
    | refine AR.nil ?_
    | refine KF.mk ?_
    | refine KT.mk (by kernel_rfl) ?_
    | refine SQ.normal ?_
    | refine AC.seq ?_
    | refine AC.regF ?_
    | refine AC.regT ?_
    | refine AC.condT rfl ?_
    | refine AC.condF rfl ?_
    | refine AC.block ?_
    | refine BQ.normal ?_
    | refine BQ.ret ?_
    | refine BQ.here ?_
    | refine BQ.there rfl ?_
    | refine SQ.ret ?_
    | refine SQ.exit ?_
    | refine AC.ret ?_
    | refine AC.exit ?_
    | refine AC.skip ?_
    | (refine AR.split rfl (fun h => ?_) (fun h => ?_) <;> rw [h])
    | (refine AC.cond rfl (fun h => ?_) (fun h => ?_) <;> rw [h])
    | refine FQ.ret rfl rfl ?_
    | refine FQ.normal rfl rfl ?_)
  refine AC.loop (fun m st => ∃ i : Nat, m = n - i ∧ i ≤ n ∧ st = ⟨[(11, .int .i64 (i : Nat)), (10, .int .i64 (n : Nat)), (9, .slice (some ⟨0, 0, none⟩) n 0), (3, .int .i64 (topI (vals (l.take i)))), (2, .pointer (some ⟨1, 0, none⟩)), (0, .slice (some ⟨0, 0, none⟩) n 0)], [(1, .row 68 [.int .i64 0, .int .i64 0]), (0, .view 2 (itL l))], [1, 0], 45⟩) n _ ?_ ⟨0, rfl, Nat.zero_le _, rfl⟩ ?_
  · exact Ren.mv (tabF []) rfl (fun k hk => by match k, hk with | 0, _ => exact ⟨rfl, rfl⟩) ⟨⟨rfl, rfl⟩, ⟨rfl, rfl⟩, ⟨rfl, rfl⟩, ⟨rfl, rfl⟩, ⟨rfl, rfl⟩, ⟨rfl, rfl⟩, trivial⟩ ⟨⟨rfl, rfl, rfl⟩, ⟨by rw [mv_itv]; rfl, rfl, allNC_it _ _⟩, trivial⟩ rfl
  intro m' st hi
  obtain ⟨i, rfl, hin, rfl⟩ := hi
  by_cases hlt : i < n
  · have hd : decide ((i : Int) < (n : Int)) = true := by simp only [decide_eq_true_eq]; omega
    obtain ⟨x, hx⟩ : ∃ x, l[i]? = some x := ⟨l[i]'(by omega), List.getElem?_eq_getElem (by omega)⟩
    have hxv := hv x (List.mem_of_getElem? hx)
    have w4 : IntKind.i64.wrap ((i : Int) + 1) = ((i + 1 : Nat) : Int) := by rw [IntWalk.i64_in _ (by omega)]; rfl
    have hTi := hTB i (by omega)
    have eS : topI (vals (l.take (i + 1))) = topI (vals (l.take i)) + difI x.v (vals (l.take i)) := by rw [vals_takeS hx, topI_dif]
    repeat' (first
      | rw [hd]
      | refine AR.auto rfl ?_
      | refine AR.nil ?_
      | refine KF.mk ?_
      | refine KT.mk (by kernel_rfl) ?_
      | refine SQ.normal ?_
      | refine AC.seq ?_
      | refine AC.regF ?_
      | refine AC.regT ?_
      | refine AC.condT rfl ?_
      | refine AC.condF rfl ?_
      | refine AC.block ?_
      | refine BQ.normal ?_
      | refine BQ.ret ?_
      | refine BQ.here ?_
      | refine BQ.there rfl ?_
      | refine SQ.ret ?_
      | refine SQ.exit ?_
      | refine AC.ret ?_
      | refine AC.exit ?_
      | refine AC.skip ?_
      | (refine AR.split rfl (fun h => ?_) (fun h => ?_) <;> rw [h])
      | (refine AC.cond rfl (fun h => ?_) (fun h => ?_) <;> rw [h])
      | refine FQ.ret rfl rfl ?_
      | refine FQ.normal rfl rfl ?_)
    refine AC.loop (fun m st => ∃ j : Nat, m = i - j ∧ j ≤ i ∧ st = ⟨[(5, .int .i64 (j : Nat)), (4, .int .i64 (i : Nat)), (11, .int .i64 (i : Nat)), (10, .int .i64 (n : Nat)), (9, .slice (some ⟨0, 0, none⟩) n 0), (3, .int .i64 (topI (vals (l.take i)) + difI x.v (vals (l.take j)))), (2, .pointer (some ⟨1, 0, none⟩)), (0, .slice (some ⟨0, 0, none⟩) n 0)], [(1, .row 68 [.int .i64 0, .int .i64 0]), (0, .view 2 (itL l))], [1, 0], 45⟩) i _ ?_ ⟨0, rfl, Nat.zero_le _, rfl⟩ ?_
    · rw [List.take_zero, show difI x.v (vals []) = 0 from rfl, Int.add_zero]
      exact Ren.mv (tabF []) rfl (fun k hk => by match k, hk with | 0, _ => exact ⟨rfl, rfl⟩) ⟨⟨rfl, rfl⟩, ⟨rfl, rfl⟩, ⟨rfl, rfl⟩, ⟨rfl, rfl⟩, ⟨rfl, rfl⟩, ⟨rfl, rfl⟩, ⟨rfl, rfl⟩, ⟨rfl, rfl⟩, trivial⟩ ⟨⟨rfl, rfl, rfl⟩, ⟨by rw [mv_itv]; rfl, rfl, allNC_it _ _⟩, trivial⟩ rfl
    intro m' st hi
    obtain ⟨j, rfl, hji, rfl⟩ := hi
    by_cases hjl : j < i
    · have hd2 : decide ((j : Int) < (i : Int)) = true := by simp only [decide_eq_true_eq]; omega
      obtain ⟨y, hy⟩ : ∃ y, l[j]? = some y := ⟨l[j]'(by omega), List.getElem?_eq_getElem (by omega)⟩
      have hyv := hv y (List.mem_of_getElem? hy)
      have hjb := difI_bd hxv (vals (l.take j)) fun u hu => by
        obtain ⟨z, hz, rfl⟩ := List.mem_map.1 hu
        exact hv z (List.mem_of_mem_take hz)
      rw [vals_len, List.length_take] at hjb
      have h5 := sq0 (x.v - y.v)
      have h6 : 0 ≤ (8192 - (x.v - y.v)) * (8192 + (x.v - y.v)) := Int.mul_nonneg (by omega) (by omega)
      have h7 : (8192 - (x.v - y.v)) * (8192 + (x.v - y.v)) = 67108864 - (x.v - y.v) * (x.v - y.v) := by grind
      have w5 : IntKind.i64.wrap ((j : Int) + 1) = ((j + 1 : Nat) : Int) := by rw [IntWalk.i64_in _ (by omega)]; rfl
      have w6 : IntKind.i64.wrap (x.v - y.v) = x.v - y.v := IntWalk.i64_in _ (by omega)
      have w7 : IntKind.i64.wrap ((x.v - y.v) * (x.v - y.v)) = (x.v - y.v) * (x.v - y.v) := IntWalk.i64_in _ (by omega)
      have eJ : difI x.v (vals (l.take (j + 1))) = difI x.v (vals (l.take j)) + (x.v - y.v) * (x.v - y.v) := by rw [vals_takeS hy, difI_app]; simp [difI]
      have w8 : IntKind.i64.wrap (topI (vals (l.take i)) + difI x.v (vals (l.take j)) + (x.v - y.v) * (x.v - y.v)) = topI (vals (l.take i)) + difI x.v (vals (l.take (j + 1))) := by
        rw [eJ, IntWalk.i64_in _ (by omega)]; omega
      repeat' (first
        | rw [hd2]
        | rw [w5]
        | rw [w6]
        | rw [w7]
        | rw [w8]
        | refine AR.auto rfl ?_
        | refine AR.man (oki_idx (A0 := 0) (i := i) rfl rfl rfl rfl (nonE_itv 2 (by omega)) (by omega)) rfl rfl rfl ?_
        | refine AR.man (oki_idx (A0 := 0) (i := j) rfl rfl rfl rfl (nonE_itv 2 (by omega)) (by omega)) rfl rfl rfl ?_
        | refine AR.man (ok_ld (A0 := 0) (u := x.v) rfl rfl rfl (by show (itL l)[_]? = _; rw [show 0 + i * 2 + 1 = i * 2 + 1 from (by omega), itL_at l i 1 x hx (by decide)]; rfl)) rfl rfl rfl ?_
        | refine AR.man (ok_ld (A0 := 0) (u := y.v) rfl rfl rfl (by show (itL l)[_]? = _; rw [show 0 + j * 2 + 1 = j * 2 + 1 from (by omega), itL_at l j 1 y hy (by decide)]; rfl)) rfl rfl rfl ?_
        | refine AR.nil ?_
        | refine KF.mk ?_
        | refine KT.mk (by kernel_rfl) ?_
        | refine SQ.normal ?_
        | refine AC.seq ?_
        | refine AC.regF ?_
        | refine AC.regT ?_
        | refine AC.condT rfl ?_
        | refine AC.condF rfl ?_
        | refine AC.block ?_
        | refine BQ.normal ?_
        | refine BQ.ret ?_
        | refine BQ.here ?_
        | refine BQ.there rfl ?_
        | refine SQ.ret ?_
        | refine SQ.exit ?_
        | refine AC.ret ?_
        | refine AC.exit ?_
        | refine AC.skip ?_
        | (refine AR.split rfl (fun h => ?_) (fun h => ?_) <;> rw [h])
        | (refine AC.cond rfl (fun h => ?_) (fun h => ?_) <;> rw [h])
        | refine FQ.ret rfl rfl ?_
        | refine FQ.normal rfl rfl ?_)
      refine ⟨i - (j + 1), _, by omega, ?_, j + 1, rfl, by omega, rfl⟩
      exact Ren.mv (tabF []) rfl (fun k hk => by match k, hk with | 0, _ => exact ⟨rfl, rfl⟩) ⟨⟨rfl, rfl⟩, ⟨rfl, rfl⟩, ⟨rfl, rfl⟩, ⟨rfl, rfl⟩, ⟨rfl, rfl⟩, ⟨rfl, rfl⟩, ⟨rfl, rfl⟩, ⟨rfl, rfl⟩, trivial⟩ ⟨⟨rfl, rfl, rfl⟩, ⟨by rw [mv_itv]; rfl, rfl, allNC_it _ _⟩, trivial⟩ rfl
    · obtain rfl : j = i := by omega
      have hd2 : decide ((j : Int) < (j : Int)) = false := by simp
      repeat' (first
        | rw [hd2]
        | rw [w4]
        | refine AR.auto rfl ?_
        | refine AR.nil ?_
        | refine KF.mk ?_
        | refine KT.mk (by kernel_rfl) ?_
        | refine SQ.normal ?_
        | refine AC.seq ?_
        | refine AC.regF ?_
        | refine AC.regT ?_
        | refine AC.condT rfl ?_
        | refine AC.condF rfl ?_
        | refine AC.block ?_
        | refine BQ.normal ?_
        | refine BQ.ret ?_
        | refine BQ.here ?_
        | refine BQ.there rfl ?_
        | refine SQ.ret ?_
        | refine SQ.exit ?_
        | refine AC.ret ?_
        | refine AC.exit ?_
        | refine AC.skip ?_
        | (refine AR.split rfl (fun h => ?_) (fun h => ?_) <;> rw [h])
        | (refine AC.cond rfl (fun h => ?_) (fun h => ?_) <;> rw [h])
        | refine FQ.ret rfl rfl ?_
        | refine FQ.normal rfl rfl ?_)
      refine ⟨n - (j + 1), _, by omega, ?_, j + 1, rfl, by omega, rfl⟩
      rw [eS]
      exact Ren.mv (tabF []) rfl (fun k hk => by match k, hk with | 0, _ => exact ⟨rfl, rfl⟩) ⟨⟨rfl, rfl⟩, ⟨rfl, rfl⟩, ⟨rfl, rfl⟩, ⟨rfl, rfl⟩, ⟨rfl, rfl⟩, ⟨rfl, rfl⟩, trivial⟩ ⟨⟨rfl, rfl, rfl⟩, ⟨by rw [mv_itv]; rfl, rfl, allNC_it _ _⟩, trivial⟩ rfl
  · obtain rfl : n = i := by omega
    have hd : decide ((n : Int) < (n : Int)) = false := by simp
    rw [List.take_of_length_le (by omega), hD]
    have hmx : (if (1 : Int) > (n : Int) then (1 : Int) else (n : Int)) = (n : Int) := if_neg (by omega)
    repeat' (first
      | rw [hd]
      | refine AR.auto rfl ?_
      | refine AR.man (ok_max (r := (n : Int)) hmx rfl rfl rfl rfl rfl) rfl rfl rfl ?_
      | refine AR.man (ok_nq_make (n := D) (d := n) (by omega) h0 (by omega) rfl rfl rfl) rfl rfl rfl ?_
      | refine AR.nil ?_
      | refine KF.mk ?_
      | refine KT.mk (by kernel_rfl) ?_
      | refine SQ.normal ?_
      | refine AC.seq ?_
      | refine AC.regF ?_
      | refine AC.regT ?_
      | refine AC.condT rfl ?_
      | refine AC.condF rfl ?_
      | refine AC.block ?_
      | refine BQ.normal ?_
      | refine BQ.ret ?_
      | refine BQ.here ?_
      | refine BQ.there rfl ?_
      | refine SQ.ret ?_
      | refine SQ.exit ?_
      | refine AC.ret ?_
      | refine AC.exit ?_
      | refine AC.skip ?_
      | (refine AR.split rfl (fun h => ?_) (fun h => ?_) <;> rw [h])
      | (refine AC.cond rfl (fun h => ?_) (fun h => ?_) <;> rw [h])
      | refine FQ.ret rfl rfl ?_
      | refine FQ.normal rfl rfl ?_)
    all_goals rfl
set_option maxRecDepth 100000 in
theorem nq_spread0 (l : List It) (n : Nat) (h0 : n = 0) (w : World) (A : Option Addr) (c : Nat) (h : SL w A n c 2 (itL l)) :
    Calls Tryz.prog 20 #[.slice A n c] w (fun e w' => e = .returned (.agg #[.int .i64 0, .int .i64 1]) ∧ Below w.heap.size w w') := by
  subst h0
  have hmx : (if (1 : Int) > ((0 : Nat) : Int) then (1 : Int) else ((0 : Nat) : Int)) = 1 := rfl
  refine fun_sliceF tblOK mixedP Tryz.func20 rfl (fun s => [s]) 0 2 (itL l) h (by decide) (allFC_it l) [.slice (some ⟨0, 0, none⟩) 0 0] rfl (fun _ => rfl) 45 [(0, .slice (some ⟨0, 0, none⟩) 0 0)] rfl rfl (by kernel_rfl) rfl rfl _ rfl ?_
  repeat' (first
    | refine AR.auto rfl ?_
    | refine AR.man (ok_max (r := 1) hmx rfl rfl rfl rfl rfl) rfl rfl rfl ?_
    | refine AR.man (ok_nq_make (n := 0) (d := 1) (by omega) (by omega) (by omega) rfl rfl rfl) rfl rfl rfl ?_
    | refine AR.nil ?_
    | refine KF.mk ?_
    | refine KT.mk (by kernel_rfl) ?_
    | refine SQ.normal ?_
    | refine AC.seq ?_
    | refine AC.regF ?_
    | refine AC.regT ?_
    | refine AC.condT rfl ?_
    | refine AC.condF rfl ?_
    | refine AC.block ?_
    | refine BQ.normal ?_
    | refine BQ.ret ?_
    | refine BQ.here ?_
    | refine BQ.there rfl ?_
    | refine SQ.ret ?_
    | refine SQ.exit ?_
    | refine AC.ret ?_
    | refine AC.exit ?_
    | refine AC.skip ?_
    | refine AC.rounds 1 ?_
    | refine RN.step ?_
    | (refine AR.split rfl (fun h => ?_) (fun h => ?_) <;> rw [h])
    | (refine AC.cond rfl (fun h => ?_) (fun h => ?_) <;> rw [h])
    | refine FQ.ret rfl rfl ?_
    | refine FQ.normal rfl rfl ?_)
  all_goals rfl
end Go.Proofs.YtbageimconenlaaGreat
