/- Wide numbers of one word: the functions by the engine. -/
import Derived.Test.YtbageimconenlaaGreatG0
import Derived.Test.YtbageimconenlaaGreatED
import Derived.Test.YtbageimconenlaaGreatGA
import Derived.Test.YtbageimconenlaaGreatSH
import Derived.Laws.MathBits
namespace Go.Proofs.YtbageimconenlaaGreat
open Go.RowKit En
set_option linter.unusedVariables false
theorem wu64 (n : Int) : IntKind.u64.wrap n = n % 18446744073709551616 := rfl
theorem shr_at (x : Int) (k : Nat) (h : k ≤ 64) : x.fdiv (2 ^ min (Int.toNat (k : Int)) IntKind.u64.bits) = x / 2 ^ k := by
  rw [show min (Int.toNat (k : Int)) IntKind.u64.bits = k from by simp [IntKind.bits]; omega]
  exact Int.fdiv_eq_ediv_of_nonneg _ (Int.le_of_lt (Int.pow_pos (by decide)))
theorem shr32 (x : Int) : x.fdiv (2 ^ min (Int.toNat 32) IntKind.u64.bits) = x / 4294967296 := shr_at x 32 (by decide)
theorem andm (z : Int) : IntKind.u64.wrap ((BitVec.ofInt IntKind.u64.bits z &&& BitVec.ofInt IntKind.u64.bits 4294967295).toNat : Int) = z % 4294967296 := by
  have h := and_low32 (z % 18446744073709551616) (by omega) (by omega)
  have e : BitVec.ofInt 64 (z % 18446744073709551616) = BitVec.ofInt 64 z := by
    apply BitVec.eq_of_toNat_eq; simp [BitVec.toNat_ofInt]
  have h2 : bits .and .u64 (z % 18446744073709551616) 4294967295 = IntKind.u64.wrap ((BitVec.ofInt 64 (z % 18446744073709551616) &&& BitVec.ofInt 64 4294967295).toNat : Int) := rfl
  rw [h2, e] at h
  show IntKind.u64.wrap ((BitVec.ofInt 64 z &&& BitVec.ofInt 64 4294967295).toNat : Int) = _
  rw [h]; omega
theorem ok_shr {P : Program} {s : St} {o : Oper} {x y : Operand} {t ty : TypeId} {a n r : Int} (hn : 0 ≤ n) (hr : a / 2 ^ min n.toNat 64 = r) (ho : o.op = .binOp .shr t x y ty) (hx : ev s x = some (.int .u64 a)) (hy : ev s y = some (.int .u64 n)) : AOk P s o ⟨rq s [x, y], []⟩ ⟨.int .u64 r, [], []⟩ := by
  subst hr
  refine AOk.bin (fun p q w => ?_) ho hx hy rfl rfl rfl
  simp only [eqGuard, binOp, shift_shr_any _ _ _ _ hn]
  rfl
theorem and1 (z : Int) : IntKind.u64.wrap ((BitVec.ofInt IntKind.u64.bits z &&& BitVec.ofInt IntKind.u64.bits 1).toNat : Int) = z % 2 := by
  have h : (BitVec.ofInt 64 z &&& BitVec.ofInt 64 1).toNat = (z % 2).toNat := by
    rw [BitVec.toNat_and, BitVec.toNat_ofInt, show (BitVec.ofInt 64 1).toNat = 1 from rfl, Nat.and_one_is_mod]; omega
  show IntKind.u64.wrap ((BitVec.ofInt 64 z &&& BitVec.ofInt 64 1).toNat : Int) = _
  rw [h, wu64]; omega
theorem or1 (a b : Int) (ha0 : 0 ≤ a) (ha : a < 9223372036854775808) (hb0 : 0 ≤ b) (hb : b < 2) : IntKind.u64.wrap ((BitVec.ofInt IntKind.u64.bits (2 * a) ||| BitVec.ofInt IntKind.u64.bits b).toNat : Int) = 2 * a + b := by
  have h : (BitVec.ofInt 64 (2 * a) ||| BitVec.ofInt 64 b).toNat = (2 * a + b).toNat := by
    rw [BitVec.toNat_or, BitVec.toNat_ofInt, BitVec.toNat_ofInt]
    have e1 : (2 * a % ((2 ^ 64 : Nat) : Int)).toNat = a.toNat <<< 1 := by rw [Nat.shiftLeft_eq]; omega
    have e2 : (b % ((2 ^ 64 : Nat) : Int)).toNat = b.toNat := by omega
    rw [e1, e2, ← Nat.shiftLeft_add_eq_or_of_lt (by omega), Nat.shiftLeft_eq]; omega
  show IntKind.u64.wrap ((BitVec.ofInt 64 (2 * a) ||| BitVec.ofInt 64 b).toNat : Int) = _
  rw [h, wu64]; omega
theorem nb_len (x : Int) (h0 : 0 ≤ x) (h1 : x ≤ 18446744073709551615) (w : World) : Calls Tryz.prog 219 #[.int .u64 x] w (fun e w' => e = .returned (.int .i64 (Lib.bitLen x.toNat)) ∧ Below w.heap.size w w') :=
  (Tryz.bits_Len64 x w h0 h1).mono fun e w' h => ⟨h.1, by rw [h.2]; exact Below.refl _ _⟩
set_option maxRecDepth 100000 in
theorem nb_mul (x y : Int) (hx0 : 0 ≤ x) (hx : x < 18446744073709551616) (hy0 : 0 ≤ y) (hy : y < 18446744073709551616) (w : World) : Calls Tryz.prog 157 #[.int .u64 x, .int .u64 y] w (fun e w' => e = .returned (.tuple #[.int .u64 (x * y / 18446744073709551616), .int .u64 (x * y % 18446744073709551616)]) ∧ Below w.heap.size w w') := by
  refine fun_flat tblOK mixedP Tryz.func157 rfl [.int .u64 x, .int .u64 y] w 51 [(0, .int .u64 x), (1, .int .u64 y)] rfl rfl (by kernel_rfl) rfl rfl rfl _ rfl ?_
  repeat' (first | refine AR.auto rfl ?_ | refine AR.nil ?_ | refine KF.mk ?_ | refine KT.mk (by kernel_rfl) ?_ | refine SQ.normal ?_ | refine AC.seq ?_ | refine AC.regF ?_ | refine AC.regT ?_ | refine AC.condT rfl ?_ | refine AC.condF rfl ?_ | refine AC.block ?_ | refine BQ.normal ?_ | refine BQ.ret ?_ | refine BQ.here ?_ | refine BQ.there rfl ?_ | refine SQ.ret ?_ | refine SQ.exit ?_ | refine AC.ret ?_ | refine AC.exit ?_ | refine AC.skip ?_ | (refine AR.split rfl (fun h => ?_) (fun h => ?_) <;> rw [h]) | (refine AC.cond rfl (fun h => ?_) (fun h => ?_) <;> rw [h]) | refine FQ.ret rfl rfl ?_ | refine FQ.normal rfl rfl ?_)
  have h := mul64_arith x y hx0 hx hy0 hy
  simp only [andm, shr32, resV]
  simp only [wu64]
  rw [h]
theorem ok_nb_mul {x y : Int} (hx0 : 0 ≤ x) (hx : x < 18446744073709551616) (hy0 : 0 ≤ y) (hy : y < 18446744073709551616) {s : St} {o : Oper} {c : Call} (ho : o.op = .call c) (hc : c.callee = .value (.func 157)) (hargs : evs s c.args.toList = some [.int .u64 x, .int .u64 y]) : AOk Tryz.prog s o ⟨rq s c.args.toList, []⟩ ⟨.tuple #[.int .u64 (x * y / 18446744073709551616), .int .u64 (x * y % 18446744073709551616)], [], []⟩ :=
  AOk.call (fun w => nb_mul x y hx0 hx hy0 hy w) ent157 ho hc hargs rfl rfl
theorem ok_nb_len {x : Int} (h0 : 0 ≤ x) (h1 : x ≤ 18446744073709551615) {s : St} {o : Oper} {c : Call} (ho : o.op = .call c) (hc : c.callee = .value (.func 219)) (hargs : evs s c.args.toList = some [.int .u64 x]) : AOk Tryz.prog s o ⟨rq s c.args.toList, []⟩ ⟨.int .i64 (Lib.bitLen x.toNat), [], []⟩ :=
  AOk.call (fun w => nb_len x h0 h1 w) ent219 ho hc hargs rfl rfl
set_option maxRecDepth 100000 in
theorem nw_prod (x y : Int) (hx0 : 0 ≤ x) (hx : x < 18446744073709551616) (hy0 : 0 ≤ y) (hy : y < 18446744073709551616) (hp0 : 0 ≤ x * y) (hp : x * y < 18446744073709551616) (w : World) : Calls Tryz.prog 180 #[.int .u64 x, .int .u64 y] w (fun e w' => e = .returned (.agg #[.int .u64 0, .int .u64 (x * y)]) ∧ Below w.heap.size w w') := by
  refine fun_flat tblOK mixedP Tryz.func180 rfl [.int .u64 x, .int .u64 y] w 16 [(0, .int .u64 x), (1, .int .u64 y)] rfl rfl (by kernel_rfl) rfl rfl rfl _ rfl ?_
  repeat' (first | refine AR.auto rfl ?_ | refine AR.man (ok_nb_mul hx0 hx hy0 hy rfl rfl rfl) rfl rfl rfl ?_ | refine AR.nil ?_ | refine KF.mk ?_ | refine KT.mk (by kernel_rfl) ?_ | refine SQ.normal ?_ | refine AC.seq ?_ | refine AC.regF ?_ | refine AC.regT ?_ | refine AC.condT rfl ?_ | refine AC.condF rfl ?_ | refine AC.block ?_ | refine BQ.normal ?_ | refine BQ.ret ?_ | refine BQ.here ?_ | refine BQ.there rfl ?_ | refine SQ.ret ?_ | refine SQ.exit ?_ | refine AC.ret ?_ | refine AC.exit ?_ | refine AC.skip ?_ | (refine AR.split rfl (fun h => ?_) (fun h => ?_) <;> rw [h]) | (refine AC.cond rfl (fun h => ?_) (fun h => ?_) <;> rw [h]) | refine FQ.ret rfl rfl ?_ | refine FQ.normal rfl rfl ?_)
  rw [Int.ediv_eq_zero_of_lt hp0 hp, Int.emod_eq_of_lt hp0 hp]; rfl
theorem ok_nw_prod {x y : Int} (hx0 : 0 ≤ x) (hx : x < 18446744073709551616) (hy0 : 0 ≤ y) (hy : y < 18446744073709551616) (hp0 : 0 ≤ x * y) (hp : x * y < 18446744073709551616) {s : St} {o : Oper} {c : Call} (ho : o.op = .call c) (hc : c.callee = .value (.func 180)) (hargs : evs s c.args.toList = some [.int .u64 x, .int .u64 y]) : AOk Tryz.prog s o ⟨rq s c.args.toList, []⟩ ⟨.agg #[.int .u64 0, .int .u64 (x * y)], [], []⟩ :=
  AOk.call (fun w => nw_prod x y hx0 hx hy0 hy hp0 hp w) ent180 ho hc hargs rfl rfl
set_option maxRecDepth 100000 in
theorem nw_bits (x : Int) (h0 : 0 ≤ x) (h1 : x ≤ 18446744073709551615) (w : World) : Calls Tryz.prog 197 #[.agg #[.int .u64 0, .int .u64 x]] w (fun e w' => e = .returned (.int .i64 (Lib.bitLen x.toNat)) ∧ Below w.heap.size w w') := by
  refine fun_flat tblOK mixedP Tryz.func197 rfl [.agg #[.int .u64 0, .int .u64 x]] w 13 [(0, .agg #[.int .u64 0, .int .u64 x])] rfl rfl (by kernel_rfl) rfl rfl rfl _ rfl ?_
  repeat' (first | refine AR.auto rfl ?_ | refine AR.man (ok_nb_len h0 h1 rfl rfl rfl) rfl rfl rfl ?_ | refine AR.nil ?_ | refine KF.mk ?_ | refine KT.mk (by kernel_rfl) ?_ | refine SQ.normal ?_ | refine AC.seq ?_ | refine AC.regF ?_ | refine AC.regT ?_ | refine AC.condT rfl ?_ | refine AC.condF rfl ?_ | refine AC.block ?_ | refine BQ.normal ?_ | refine BQ.ret ?_ | refine BQ.here ?_ | refine BQ.there rfl ?_ | refine SQ.ret ?_ | refine SQ.exit ?_ | refine AC.ret ?_ | refine AC.exit ?_ | refine AC.skip ?_ | (refine AR.split rfl (fun h => ?_) (fun h => ?_) <;> rw [h]) | (refine AC.cond rfl (fun h => ?_) (fun h => ?_) <;> rw [h]) | refine FQ.ret rfl rfl ?_ | refine FQ.normal rfl rfl ?_)
  rfl
theorem ok_nw_bits {x : Int} (h0 : 0 ≤ x) (h1 : x ≤ 18446744073709551615) {s : St} {o : Oper} {c : Call} (ho : o.op = .call c) (hc : c.callee = .value (.func 197)) (hargs : evs s c.args.toList = some [.agg #[.int .u64 0, .int .u64 x]]) : AOk Tryz.prog s o ⟨rq s c.args.toList, []⟩ ⟨.int .i64 (Lib.bitLen x.toNat), [], []⟩ :=
  AOk.call (fun w => nw_bits x h0 h1 w) ent197 ho hc hargs rfl rfl
set_option maxRecDepth 100000 in
theorem nw_bit (x n : Int) (h2 : 0 ≤ n) (h3 : n < 64) (w : World) : Calls Tryz.prog 221 #[.agg #[.int .u64 0, .int .u64 x], .int .i64 n] w (fun e w' => e = .returned (.int .u64 (x / 2 ^ n.toNat % 2)) ∧ Below w.heap.size w w') := by
  have hd : decide (n ≥ 64) = false := by simp; omega
  have hwn : IntKind.u64.wrap n = n := by rw [wu64]; omega
  have hr : x / 2 ^ min n.toNat 64 = x / 2 ^ n.toNat := by rw [show min n.toNat 64 = n.toNat by omega]
  refine fun_flat tblOK mixedP Tryz.func221 rfl [.agg #[.int .u64 0, .int .u64 x], .int .i64 n] w 20 [(0, .agg #[.int .u64 0, .int .u64 x]), (1, .int .i64 n)] rfl rfl (by kernel_rfl) rfl rfl rfl _ rfl ?_
  repeat' (first | rw [hd] | rw [hwn] | refine AR.auto rfl ?_ | refine AR.man (ok_shr h2 hr rfl rfl rfl) rfl rfl rfl ?_ | refine AR.nil ?_ | refine KF.mk ?_ | refine KT.mk (by kernel_rfl) ?_ | refine SQ.normal ?_ | refine AC.seq ?_ | refine AC.regF ?_ | refine AC.regT ?_ | refine AC.condT rfl ?_ | refine AC.condF rfl ?_ | refine AC.block ?_ | refine BQ.normal ?_ | refine BQ.ret ?_ | refine BQ.here ?_ | refine BQ.there rfl ?_ | refine SQ.ret ?_ | refine SQ.exit ?_ | refine AC.ret ?_ | refine AC.exit ?_ | refine AC.skip ?_ | (refine AR.split rfl (fun h => ?_) (fun h => ?_) <;> rw [h]) | (refine AC.cond rfl (fun h => ?_) (fun h => ?_) <;> rw [h]) | refine FQ.ret rfl rfl ?_ | refine FQ.normal rfl rfl ?_)
  rw [and1]; rfl
theorem ok_nw_bit {x n : Int} (h2 : 0 ≤ n) (h3 : n < 64) {s : St} {o : Oper} {c : Call} (ho : o.op = .call c) (hc : c.callee = .value (.func 221)) (hargs : evs s c.args.toList = some [.agg #[.int .u64 0, .int .u64 x], .int .i64 n]) : AOk Tryz.prog s o ⟨rq s c.args.toList, []⟩ ⟨.int .u64 (x / 2 ^ n.toNat % 2), [], []⟩ :=
  AOk.call (fun w => nw_bit x n h2 h3 w) ent221 ho hc hargs rfl rfl
theorem sub161 (x y : Nat) (h : y ≤ x) (hx : x < 18446744073709551616) (w : World) : (callFunc 161 #[.int .u64 (x : Nat), .int .u64 (y : Nat), .int .u64 0]).run Tryz.prog w = .ok (.value (.tuple #[.int .u64 ((x - y : Nat) : Int), .int .u64 0])) w := by
  obtain ⟨fn, hf, h1, h2, h3, h4⟩ := fn161
  rw [run_callFunc_extern hf h1 h2 h3 h4]
  have e : (x + Extern.MathBitsCarry.m64 - y - 0) % Extern.MathBitsCarry.m64 = x - y := by unfold Extern.MathBitsCarry.m64; omega
  have e2 : ¬ x < y + 0 := by omega
  have h5 : (subEntry #[.int .u64 (x : Nat), .int .u64 (y : Nat), .int .u64 0]).run Tryz.prog w = .ok (.tuple #[.int .u64 (Int.ofNat ((x + Extern.MathBitsCarry.m64 - y - 0) % Extern.MathBitsCarry.m64)), .int .u64 (Int.ofNat (if x < y + 0 then 1 else 0))]) w := rfl
  rw [h5, e, if_neg e2]
  rfl
theorem ok_cmp (a b r : Int) (h : (if a < b then -1 else if a = b then 0 else 1) = r) {s : St} {o : Oper} {c : Call} (ho : o.op = .call c) (hc : c.callee = .value (.func 159)) (hargs : evs s c.args.toList = some [.agg #[.int .u64 0, .int .u64 a], .agg #[.int .u64 0, .int .u64 b]]) : AOk Tryz.prog s o ⟨rq s c.args.toList, []⟩ ⟨.int .i64 r, [], []⟩ :=
  AOk.call (fun w => (gw_cmp 0 a 0 b w).mono fun e w' he => ⟨by rw [he.1, ← h]; simp, he.2⟩) ent159 ho hc hargs rfl rfl
theorem div_step (A B j Q R b : Nat) (hB : 0 < B) (hQ : A / 2 ^ (j + 1) / B = Q) (hR : A / 2 ^ (j + 1) % B = R) (hb : A / 2 ^ j % 2 = b) :
    A / 2 ^ j / B = (if 2 * R + b < B then 2 * Q else 2 * Q + 1) ∧ A / 2 ^ j % B = (if 2 * R + b < B then 2 * R + b else 2 * R + b - B) := by
  have hX : A / 2 ^ (j + 1) = A / 2 ^ j / 2 := by rw [Nat.pow_succ, Nat.div_div_eq_div_mul]
  have h1 := Nat.div_add_mod (A / 2 ^ (j + 1)) B
  rw [hQ, hR] at h1
  have hRB : R < B := by rw [← hR]; exact Nat.mod_lt _ hB
  have hY : A / 2 ^ j = B * (2 * Q) + (2 * R + b) := by
    have : B * (2 * Q) = 2 * (B * Q) := by rw [Nat.mul_left_comm]
    omega
  split
  · rename_i hlt
    rw [hY, Nat.mul_add_div hB, Nat.mul_add_mod, Nat.div_eq_of_lt hlt, Nat.mod_eq_of_lt hlt]
    exact ⟨rfl, rfl⟩
  · rename_i hge
    have h2 : B * (2 * Q) + (2 * R + b) = B * (2 * Q + 1) + (2 * R + b - B) := by rw [Nat.mul_add, Nat.mul_one]; omega
    rw [hY, h2, Nat.mul_add_div hB, Nat.mul_add_mod, Nat.div_eq_of_lt (by omega), Nat.mod_eq_of_lt (by omega)]
    exact ⟨rfl, rfl⟩
theorem bitLen_lt : ∀ (f x : Nat), x < f → x < 18446744073709551616 → x < 2 ^ Lib.bitLen x
  | 0, x, h, _ => absurd h (Nat.not_lt_zero _)
  | f + 1, x, h, hx => by
    by_cases h0 : x = 0
    · subst h0; exact Nat.two_pow_pos _
    · have := bitLen_lt f (x / 2) (by omega) (by omega)
      rw [Lib.bitLen_half x h0 hx, Nat.pow_add]
      omega
set_option maxRecDepth 100000 in
set_option maxHeartbeats 4000000 in
theorem nw_div (A B : Nat) (hA : A < 9223372036854775808) (hB0 : 0 < B) (hB : B < 9223372036854775808) (w : World) : Calls Tryz.prog 190 #[.agg #[.int .u64 0, .int .u64 (A : Nat)], .agg #[.int .u64 0, .int .u64 (B : Nat)]] w (fun e w' => e = .returned (.tuple #[.agg #[.int .u64 0, .int .u64 ((A / B : Nat))], .agg #[.int .u64 0, .int .u64 ((A % B : Nat))], .bool true]) ∧ Below w.heap.size w w') := by
  have hz : ((0 : Int) == 0 && (B : Int) == 0) = false := by simp; omega
  obtain ⟨L, hL⟩ : ∃ L, Lib.bitLen (A : Int).toNat = L := ⟨_, rfl⟩
  have hL1 : A < 2 ^ L := by rw [← hL]; exact bitLen_lt (A + 1) A (Nat.lt_succ_self _) (by omega)
  have hL2 : L ≤ 63 := by rw [← hL]; exact Lib.bitLen_le A 63 (by decide) hA
  have hw1 : IntKind.i64.wrap ((L : Int) - 1) = (L : Nat) - 1 := by rw [IntWalk.i64_in _ (by omega)]
  have hA0 : A / 2 ^ L = 0 := Nat.div_eq_of_lt hL1
  refine fun_flat tblOK mixedP Tryz.func190 rfl [.agg #[.int .u64 0, .int .u64 (A : Nat)], .agg #[.int .u64 0, .int .u64 (B : Nat)]] w 89 [(0, .agg #[.int .u64 0, .int .u64 (A : Nat)]), (1, .agg #[.int .u64 0, .int .u64 (B : Nat)])] rfl rfl (by kernel_rfl) rfl rfl rfl _ rfl ?_
  repeat' (first | rw [hz] | rw [hL] | rw [hw1] | refine AR.auto rfl ?_ | refine AR.man (AOk.call (gw_zero 0 B) ent196 rfl rfl rfl rfl rfl) rfl rfl rfl ?_ | refine AR.man (ok_nw_bits (by omega) (by omega) rfl rfl rfl) rfl rfl rfl ?_ | refine AR.nil ?_ | refine KF.mk ?_ | refine KT.mk (by kernel_rfl) ?_ | refine SQ.normal ?_ | refine AC.seq ?_ | refine AC.regF ?_ | refine AC.regT ?_ | refine AC.condT rfl ?_ | refine AC.condF rfl ?_ | refine AC.block ?_ | refine BQ.normal ?_ | refine BQ.ret ?_ | refine BQ.here ?_ | refine BQ.there rfl ?_ | refine SQ.ret ?_ | refine SQ.exit ?_ | refine AC.ret ?_ | refine AC.exit ?_ | refine AC.skip ?_ | (refine AR.split rfl (fun h => ?_) (fun h => ?_) <;> rw [h]) | (refine AC.cond rfl (fun h => ?_) (fun h => ?_) <;> rw [h]) | refine FQ.ret rfl rfl ?_ | refine FQ.normal rfl rfl ?_)
  refine AC.loop (fun k s => k ≤ 63 ∧ s = ⟨[(9, .int .i64 ((k : Nat) - 1)), (8, .pointer (some ⟨5, 0, none⟩)), (7, .pointer (some ⟨4, 0, none⟩)), (6, .bool false), (5, .pointer (some ⟨3, 0, none⟩)), (4, .pointer (some ⟨2, 0, none⟩)), (3, .pointer (some ⟨1, 0, none⟩)), (2, .pointer (some ⟨0, 0, none⟩))], [(5, .row 73 [.int .u64 0, .int .u64 (A / 2 ^ k % B : Nat)]), (4, .row 73 [.int .u64 0, .int .u64 (A / 2 ^ k / B : Nat)]), (3, .row 73 [.int .u64 0, .int .u64 0]), (2, .row 73 [.int .u64 0, .int .u64 0]), (1, .row 73 [.int .u64 0, .int .u64 (B : Nat)]), (0, .row 73 [.int .u64 0, .int .u64 (A : Nat)])], [5, 4, 3, 2, 1, 0], 89⟩) L _ ?_ ⟨hL2, rfl⟩ ?_
  · rw [hA0, Nat.zero_mod, Nat.zero_div]
    exact Ren.mv (tabF []) rfl (fun k hk => absurd hk (Nat.not_lt_zero _)) ⟨⟨rfl, rfl⟩, ⟨rfl, rfl⟩, ⟨rfl, rfl⟩, ⟨rfl, rfl⟩, ⟨rfl, rfl⟩, ⟨rfl, rfl⟩, ⟨rfl, rfl⟩, ⟨rfl, rfl⟩, trivial⟩ ⟨⟨rfl, rfl, rfl⟩, ⟨rfl, rfl, rfl⟩, ⟨rfl, rfl, rfl⟩, ⟨rfl, rfl, rfl⟩, ⟨rfl, rfl, rfl⟩, ⟨rfl, rfl, rfl⟩, trivial⟩ rfl
  intro k s hi
  obtain ⟨hk, rfl⟩ := hi
  by_cases hk0 : k = 0
  · subst hk0
    have hd : decide (((0 : Nat) : Int) - 1 ≥ 0) = false := by simp
    rw [Nat.pow_zero, Nat.div_one]
    repeat' (first | rw [hd] | refine AR.auto rfl ?_ | refine AR.nil ?_ | refine KF.mk ?_ | refine KT.mk (by kernel_rfl) ?_ | refine SQ.normal ?_ | refine AC.seq ?_ | refine AC.regF ?_ | refine AC.regT ?_ | refine AC.condT rfl ?_ | refine AC.condF rfl ?_ | refine AC.block ?_ | refine BQ.normal ?_ | refine BQ.ret ?_ | refine BQ.here ?_ | refine BQ.there rfl ?_ | refine SQ.ret ?_ | refine SQ.exit ?_ | refine AC.ret ?_ | refine AC.exit ?_ | refine AC.skip ?_ | (refine AR.split rfl (fun h => ?_) (fun h => ?_) <;> rw [h]) | (refine AC.cond rfl (fun h => ?_) (fun h => ?_) <;> rw [h]) | refine FQ.ret rfl rfl ?_ | refine FQ.normal rfl rfl ?_)
    rfl
  · obtain ⟨j, rfl⟩ : ∃ j, k = j + 1 := ⟨k - 1, by omega⟩
    have hd : decide (((j + 1 : Nat) : Int) - 1 ≥ 0) = true := by simp only [decide_eq_true_eq]; omega
    obtain ⟨Q, hQ⟩ : ∃ Q, A / 2 ^ (j + 1) / B = Q := ⟨_, rfl⟩
    obtain ⟨R, hR⟩ : ∃ R, A / 2 ^ (j + 1) % B = R := ⟨_, rfl⟩
    obtain ⟨b, hb⟩ : ∃ b, A / 2 ^ j % 2 = b := ⟨_, rfl⟩
    obtain ⟨eQ, eR⟩ := div_step A B j Q R b hB0 hQ hR hb
    have hb2 : b < 2 := by omega
    have hRB : R < B := by rw [← hR]; exact Nat.mod_lt _ hB0
    have hQ2 : Q < 4611686018427387904 := by
      have e1 : Q ≤ A / 2 ^ (j + 1) := by rw [← hQ]; exact Nat.div_le_self _ _
      have e2 : A / 2 ^ (j + 1) ≤ A / 2 := by rw [Nat.pow_succ, Nat.mul_comm, ← Nat.div_div_eq_div_mul]; exact Nat.div_le_self _ _
      omega
    rw [hQ, hR]
    have z1 : (0 : Int).fdiv (2 ^ min (Int.toNat 63) IntKind.u64.bits) = 0 := rfl
    have z2 : IntKind.u64.wrap (0 * 2 ^ min (Int.toNat 1) IntKind.u64.bits) = 0 := rfl
    have z3 : IntKind.u64.wrap ((BitVec.ofInt IntKind.u64.bits 0 ||| BitVec.ofInt IntKind.u64.bits 0).toNat : Int) = 0 := rfl
    have r1 : (R : Int).fdiv (2 ^ min (Int.toNat 63) IntKind.u64.bits) = 0 := by rw [show (63 : Int) = ((63 : Nat) : Int) from rfl, shr_at _ _ (by decide)]; omega
    have q1 : (Q : Int).fdiv (2 ^ min (Int.toNat 63) IntKind.u64.bits) = 0 := by rw [show (63 : Int) = ((63 : Nat) : Int) from rfl, shr_at _ _ (by decide)]; omega
    have r2 : IntKind.u64.wrap ((R : Int) * 2 ^ min (Int.toNat 1) IntKind.u64.bits) = ((2 * R : Nat) : Int) := by show IntKind.u64.wrap ((R : Int) * 2 ^ 1) = _; rw [wu64]; omega
    have q2 : IntKind.u64.wrap ((Q : Int) * 2 ^ min (Int.toNat 1) IntKind.u64.bits) = ((2 * Q : Nat) : Int) := by show IntKind.u64.wrap ((Q : Int) * 2 ^ 1) = _; rw [wu64]; omega
    have b1 : (A : Int) / 2 ^ (((j + 1 : Nat) : Int) - 1).toNat % 2 = (b : Nat) := by
      rw [show (((j + 1 : Nat) : Int) - 1).toNat = j by omega, ← hb]; simp
    have r3 : IntKind.u64.wrap ((BitVec.ofInt IntKind.u64.bits ((2 * R : Nat) : Int) ||| BitVec.ofInt IntKind.u64.bits (b : Int)).toNat : Int) = ((2 * R + b : Nat) : Int) := by
      have := or1 (R : Int) (b : Int) (by omega) (by omega) (by omega) (by omega)
      rw [show ((2 * R : Nat) : Int) = 2 * (R : Int) by omega, this]; omega
    have q3 : IntKind.u64.wrap ((BitVec.ofInt IntKind.u64.bits ((2 * Q : Nat) : Int) ||| BitVec.ofInt IntKind.u64.bits 1).toNat : Int) = ((2 * Q + 1 : Nat) : Int) := by
      have := or1 (Q : Int) 1 (by omega) (by omega) (by omega) (by omega)
      rw [show ((2 * Q : Nat) : Int) = 2 * (Q : Int) by omega, this]; omega
    have w1 : IntKind.i64.wrap (((j + 1 : Nat) : Int) - 1 - 1) = (j : Int) - 1 := by rw [IntWalk.i64_in _ (by omega)]; omega
    by_cases hlt : 2 * R + b < B
    · rw [if_pos hlt] at eQ eR
      have hcm : (if ((2 * R + b : Nat) : Int) < (B : Int) then (-1 : Int) else if ((2 * R + b : Nat) : Int) = (B : Int) then 0 else 1) = -1 := if_pos (by omega)
      repeat' (first | rw [hd] | rw [z1] | rw [z2] | rw [z3] | rw [r1] | rw [q1] | rw [r2] | rw [q2] | rw [b1] | rw [r3] | rw [w1] | refine AR.auto rfl ?_ | refine AR.man (ok_nw_bit (n := ((j + 1 : Nat) : Int) - 1) (by omega) (by omega) rfl rfl rfl) rfl rfl rfl ?_ | refine AR.man (ok_cmp ((2 * R + b : Nat) : Int) (B : Int) (-1) hcm rfl rfl rfl) rfl rfl rfl ?_ | refine AR.nil ?_ | refine KF.mk ?_ | refine KT.mk (by kernel_rfl) ?_ | refine SQ.normal ?_ | refine AC.seq ?_ | refine AC.regF ?_ | refine AC.regT ?_ | refine AC.condT rfl ?_ | refine AC.condF rfl ?_ | refine AC.block ?_ | refine BQ.normal ?_ | refine BQ.ret ?_ | refine BQ.here ?_ | refine BQ.there rfl ?_ | refine SQ.ret ?_ | refine SQ.exit ?_ | refine AC.ret ?_ | refine AC.exit ?_ | refine AC.skip ?_ | (refine AR.split rfl (fun h => ?_) (fun h => ?_) <;> rw [h]) | (refine AC.cond rfl (fun h => ?_) (fun h => ?_) <;> rw [h]) | refine FQ.ret rfl rfl ?_ | refine FQ.normal rfl rfl ?_)
      refine ⟨j, _, Nat.lt_succ_self j, ?_, by omega, rfl⟩
      rw [eQ, eR]
      exact Ren.mv (tabF []) rfl (fun k hk => absurd hk (Nat.not_lt_zero _)) ⟨⟨rfl, rfl⟩, ⟨rfl, rfl⟩, ⟨rfl, rfl⟩, ⟨rfl, rfl⟩, ⟨rfl, rfl⟩, ⟨rfl, rfl⟩, ⟨rfl, rfl⟩, ⟨rfl, rfl⟩, trivial⟩ ⟨⟨rfl, rfl, rfl⟩, ⟨rfl, rfl, rfl⟩, ⟨rfl, rfl, rfl⟩, ⟨rfl, rfl, rfl⟩, ⟨rfl, rfl, rfl⟩, ⟨rfl, rfl, rfl⟩, trivial⟩ rfl
    · rw [if_neg hlt] at eQ eR
      obtain ⟨r, hcm, hr0⟩ : ∃ r : Int, (if ((2 * R + b : Nat) : Int) < (B : Int) then (-1 : Int) else if ((2 * R + b : Nat) : Int) = (B : Int) then 0 else 1) = r ∧ 0 ≤ r := by
        rw [if_neg (by omega)]
        split
        · exact ⟨0, rfl, by decide⟩
        · exact ⟨1, rfl, by decide⟩
      have hd2 : decide (r ≥ 0) = true := by simp; omega
      repeat' (first | rw [hd] | rw [hd2] | rw [z1] | rw [z2] | rw [z3] | rw [r1] | rw [q1] | rw [r2] | rw [q2] | rw [b1] | rw [r3] | rw [q3] | rw [w1] | refine AR.auto rfl ?_ | refine AR.man (ok_nw_bit (n := ((j + 1 : Nat) : Int) - 1) (by omega) (by omega) rfl rfl rfl) rfl rfl rfl ?_ | refine AR.man (ok_cmp ((2 * R + b : Nat) : Int) (B : Int) r hcm rfl rfl rfl) rfl rfl rfl ?_ | refine AR.man (AOk.ext (sub161 (2 * R + b) B (by omega) (by omega)) rfl rfl rfl rfl rfl) rfl rfl rfl ?_ | refine AR.man (AOk.ext sub161b rfl rfl rfl rfl rfl) rfl rfl rfl ?_ | refine AR.nil ?_ | refine KF.mk ?_ | refine KT.mk (by kernel_rfl) ?_ | refine SQ.normal ?_ | refine AC.seq ?_ | refine AC.regF ?_ | refine AC.regT ?_ | refine AC.condT rfl ?_ | refine AC.condF rfl ?_ | refine AC.block ?_ | refine BQ.normal ?_ | refine BQ.ret ?_ | refine BQ.here ?_ | refine BQ.there rfl ?_ | refine SQ.ret ?_ | refine SQ.exit ?_ | refine AC.ret ?_ | refine AC.exit ?_ | refine AC.skip ?_ | (refine AR.split rfl (fun h => ?_) (fun h => ?_) <;> rw [h]) | (refine AC.cond rfl (fun h => ?_) (fun h => ?_) <;> rw [h]) | refine FQ.ret rfl rfl ?_ | refine FQ.normal rfl rfl ?_)
      refine ⟨j, _, Nat.lt_succ_self j, ?_, by omega, rfl⟩
      rw [eQ, eR]
      exact Ren.mv (tabF []) rfl (fun k hk => absurd hk (Nat.not_lt_zero _)) ⟨⟨rfl, rfl⟩, ⟨rfl, rfl⟩, ⟨rfl, rfl⟩, ⟨rfl, rfl⟩, ⟨rfl, rfl⟩, ⟨rfl, rfl⟩, ⟨rfl, rfl⟩, ⟨rfl, rfl⟩, trivial⟩ ⟨⟨rfl, rfl, rfl⟩, ⟨rfl, rfl, rfl⟩, ⟨rfl, rfl, rfl⟩, ⟨rfl, rfl, rfl⟩, ⟨rfl, rfl, rfl⟩, ⟨rfl, rfl, rfl⟩, trivial⟩ rfl
end Go.Proofs.YtbageimconenlaaGreat
