/- Several chains: made, added to, the draw that they need: the contracts. -/
import Derived.Test.YtbageimconenlaaGreatSa
namespace Go.Proofs.YtbageimconenlaaGreat
open Go.RowKit
set_option linter.unusedVariables false
def preS (d : List Ch) : OutS → OutS
  | .ok cs r => .ok (d ++ cs) r
  | .need m => .need m
  | .bad => .bad
theorem preS_nil (o : OutS) : preS [] o = o := by cases o <;> rfl
theorem sampM_step {W cap v : Int} {cs d : List Ch} {c c' : Ch} {j : Nat} {ds r : List Int} (hc : cs[j]? = some c) (ha : addM W cap c v ds = .ok c' r) : preS d (sampM W cap v (cs.drop j) ds) = preS (d ++ [c']) (sampM W cap v (cs.drop (j + 1)) r) := by
  rw [drop_cons hc]
  show preS d (match addM W cap c v ds with | .ok c' r => _ | .need m => _ | .bad => _) = _
  rw [ha]
  simp only []
  cases sampM W cap v (cs.drop (j + 1)) r <;> simp [preS]
theorem sampM_needs {W cap v : Int} {cs d : List Ch} {c : Ch} {j : Nat} {ds : List Int} {m : Int} (hc : cs[j]? = some c) (ha : addM W cap c v ds = .need m) : preS d (sampM W cap v (cs.drop j) ds) = .need m := by
  rw [drop_cons hc]
  show preS d (match addM W cap c v ds with | .ok c' r => _ | .need m => _ | .bad => _) = _
  rw [ha]; rfl
theorem sampM_bad {W cap v : Int} {cs d : List Ch} {c : Ch} {j : Nat} {ds : List Int} (hc : cs[j]? = some c) (ha : addM W cap c v ds = .bad) : preS d (sampM W cap v (cs.drop j) ds) = .bad := by
  rw [drop_cons hc]
  show preS d (match addM W cap c v ds with | .ok c' r => _ | .need m => _ | .bad => _) = _
  rw [ha]; rfl
section
variable {P : Program} (w : World)
theorem wpList_appendKa {ops : Array Oper} {rest : List Oper} {o : Oper} {a : Act} {Q : Exit → Act → World → Prop} (hgd : o.guard = none) (s x : Operand) (t : TypeId)
    (ho : o.op = .call { callee := .builtin .append, args := #[s, x], argTypes := #[t, t] })
    (base : Nat) (e : TypeId) (i : TypeInfo) (z : Value) (size bytes : Nat) (ht : P.underlying t = some (.slice e)) (hi : P.info? e = some i) (hz : i.zero = some z)
    (hsize : i.size = size) (hby : i.bytes = bytes) (hzs : z.cells.size = size) (hsz : 0 < size)
    (v : Value) (n : Nat) (xs : List Value) (hs : a.eval s = v) (hown : OwnK w base e size v n xs)
    (B : Nat) (A : Option Addr) (m c : Nat) (news : List Value) (hx : a.eval x = .slice A m c) (hr : SlK w B A m size news) (h1 : ∀ u ∈ news, u.oneCell' = true)
    (q : Nat) (hq : n + m = q) (h63 : q ≤ maxLen) (hbytes : q * bytes ≤ 140737488355328) (hbase : base ≤ w.heap.size)
    (h : ∀ A' c' w', OwnK w' base e size (.slice A' q c') q (xs ++ news) → w.grownBy w' v.ownBlock → ((Value.slice A' q c').ownBlock = v.ownBlock ∨ (Value.slice A' q c').ownBlock = some w.heap.size) → wpList P ops Q rest (a.put o.dst (.slice A' q c')) w') : wpList P ops Q (o :: rest) a w := by
  subst hq
  refine wpList_plain hgd fun K hK => ?_
  obtain ⟨v', w', hrun, h2, h3, h4⟩ := run_appendK (P := P) w base t o.type e i z size bytes ht hi hz hsize hby hzs hsz v n xs hown B A m c news hr h1 h63 hbytes hbase
  obtain ⟨A', c', rfl, _, _⟩ := h2.form
  unfold Oper.wp execOp
  simp only [ho, resolve, invoke, builtin, Sem.run_bind, Sem.run_pure, Result.andThen_ok, List.map_toArray, List.map_cons, List.map_nil, hs, hx, hrun]
  exact hK _ _ (h A' c' w' h2 h3 h4)
end
theorem info186 : (Tryz.prog.info? 186).map (fun i => (i.zero, i.size, i.bytes)) = some (some (.agg #[.int .i64 0, .int .i64 0, .int .i64 0, .int .i64 0, .slice none 0 0]), 5, 56) := by kernel_rfl
def SNeedE (o : OutS) (w : World) (e : Ending) (w' : World) : Prop :=
  ((∃ (cs' : List Ch) (r : List Int), o = .ok cs' r ∧ e = .returned (.tuple #[.int .i64 0, .bool false])) ∨ (∃ m : Int, o = .need m ∧ e = .returned (.tuple #[.int .i64 m, .bool true]))) ∧ Below w.heap.size w w'
set_option maxRecDepth 100000 in
set_option maxHeartbeats 4000000 in
theorem sneeds_any {W cap v I : Int} {vv : Value} {B : Nat} {cs : List Ch} {l : List Int} {A0 : Option Addr} {n0 k0 : Nat} {w : World} (h : HSm w B W cap vv cs) (hV : VCs W cap I cs) (hW : W < cap) (hv1 : -4096 ≤ v) (hv2 : v ≤ 4096) (hi : I < 1099511627776) (hS : Sl w B A0 n0 (l.map (Value.int .i64))) (hn0 : n0 ≤ 1000000) (hB : B ≤ w.heap.size) (hbad : sampM W cap v cs l ≠ .bad) :
    Calls Tryz.prog 40 #[vv, .int .i64 v, .slice A0 n0 k0] w (SNeedE (sampM W cap v cs l) w) := by
  have HBAD := hide hbad
  clear hbad
  obtain ⟨A, k, ps, rfl, hC⟩ := h
  have hn1 := hV.n1
  have hn2 := hV.n2
  have HV := hide hV.v
  have C96 := hide (fun (w1 : World) (hb : Below w.heap.size w w1) => sval_any (v := .agg #[.slice A cs.length k]) ⟨A, k, ps, rfl, hC.below (hb.mono hB)⟩ hV (show B ≤ w1.heap.size by have := hb.size; omega))
  generalize hn : cs.length = n at *
  have HN := hide hn
  have qX : Blk (w.alloc (.cells #[.slice A n k] 48)) w.heap.size 48 #[.slice A n k] := Blk.new _ _ _
  have qC := hC.below (w' := (w.alloc (.cells #[.slice A n k] 48))) ((Below.refl B w).alloc hB _)
  have qD := hS.below (w' := (w.alloc (.cells #[.slice A n k] 48))) ((Below.refl B w).alloc hB _)
  have qB : Below w.heap.size w (w.alloc (.cells #[.slice A n k] 48)) := Bl.alloc' (Below.refl _ w) _
  have hl0 : w.heap.size < (w.alloc (.cells #[.slice A n k] 48)).heap.size := by simp
  clear hC hS hV hn
  unfold RetB at C96
  go_enter Tryz.func40, Tryz.ntmps40
  go_upto_region 1 with (fail)
  generalize (w.alloc (.cells #[.slice A n k] 48)) = w0 at *
  have X0 := hide qX
  have C0 := hide qC
  have D0 := hide qD
  have B0 := hide qB
  clear qX qC qD qB
  go_wp2_with (refine wpList_load48 rfl (.tmp 3) rfl w.heap.size 48 rfl X0.out ?_)
  refine (C96.out w0 B0.out).mono ?_
  rintro e w1 ⟨rfl, hb⟩
  have X1 := hide (X0.out.below hb X0.out.lt)
  have C1 := hide (C0.out.below (hb.mono (show B ≤ w0.heap.size by omega)))
  have D1 := hide (D0.out.below (hb.mono (show B ≤ w0.heap.size by omega)))
  have B1 := hide (B0.out.trans (hb.mono B0.out.size))
  have hs1 := hb.size
  clear hb X0 C0 D0 B0 C96
  have x0 : w1.cell? ⟨w.heap.size, 0, none⟩ = some (.slice A n k) := X1.out.cell 0
  go_wp2
  clear x0
  go_loopw [8, 22] (fun a i wr => ∃ (j at' : Nat) (dn : List Ch), j ≤ n ∧ i = .int .i64 j ∧ a = .int .i64 at' ∧ at' ≤ n0 ∧ preS dn (sampM W cap v (cs.drop j) (l.drop at')) = sampM W cap v cs l ∧ Below w1.heap.size w1 wr) (fun _ i _ => n - (intOf i).toNat)
  case atStart => exact ⟨0, 0, [], Nat.zero_le _, rfl, rfl, Nat.zero_le _, by rw [preS_nil]; rfl, Below.refl _ _⟩
  case round =>
    obtain ⟨j, at', dn, hj, rfl, rfl, hat', hpre, hb⟩ := hrel
    have C2 := hide (C1.out.below (hb.mono (show B ≤ w1.heap.size by omega)))
    have D2 := hide (D1.out.below (hb.mono (show B ≤ w1.heap.size by omega)))
    have HB := hide hb
    have HP := hide hpre
    have hsz := hb.size
    clear hb hpre
    by_cases hlt : j < n
    · have hjlt : (j : Int) < (n : Int) := by omega
      obtain ⟨c, Ac, kc, hpc, hc, hHc⟩ := C2.out.at_ hlt
      obtain ⟨hVc, hIc⟩ := HV.out c (List.mem_of_getElem? hc)
      obtain ⟨b, o, rfl, hbB, c0, c1, c2, c3, c4⟩ := C2.out.row.chain hpc
      have hnb : addM W cap c v (l.drop at') ≠ .bad := fun e => HBAD.out (by rw [← HP.out, sampM_bad hc e])
      have C97 := hide (fun (w2 : World) (hb : Below wr.heap.size wr w2) => cNeeds_any (v := v) (l := l) (k0 := k0) (at_ := at') (hHc.below (hb.mono (show B ≤ wr.heap.size by omega))) hVc hW hv1 hv2 (by omega) (D2.out.below (hb.mono (show B ≤ wr.heap.size by omega))) hat' hn0 (by have := hb.size; omega) hnb)
      have C98 := hide (fun (w2 : World) (hb : Below wr.heap.size wr w2) => cAdd_any (v := v) (l := l) (k0 := k0) (at_ := at') (hHc.below (hb.mono (show B ≤ wr.heap.size by omega))) hVc hW hv1 hv2 (by omega) (D2.out.below (hb.mono (show B ≤ wr.heap.size by omega))) hat' hn0 (by have := hb.size; omega) hnb)
      have HC := hide hc
      clear hpc hc hHc hVc hIc hnb
      have hlb : b < wr.heap.size := by omega
      simp only [] at c2 c3 c4
      generalize hci : c.i = ci at *
      generalize hcx : c.nx = cx at *
      generalize hnc : c.ls.length = nc at *
      clear hci hcx hnc
      have Y1 := hide (Blk.new wr 186 #[.int .i64 W, .int .i64 cap, .int .i64 ci, .int .i64 cx, .slice Ac nc kc])
      have B2 := hide (show Below wr.heap.size wr (wr.alloc (.cells #[.int .i64 W, .int .i64 cap, .int .i64 ci, .int .i64 cx, .slice Ac nc kc] 186)) from Bl.alloc' (Below.refl _ wr) _)
      go_upto_region 7 with (fail)
      generalize (wr.alloc (.cells #[.int .i64 W, .int .i64 cap, .int .i64 ci, .int .i64 cx, .slice Ac nc kc] 186)) = w2 at *
      clear c0 c1 c2 c3 c4
      go_wp2_with (refine wpList_load186 rfl (.tmp 10) rfl wr.heap.size 186 rfl Y1.out ?_)
      refine (C97.out w2 B2.out).mono ?_
      rintro e w3 ⟨⟨c', r, ho, rfl⟩ | ⟨m, ho, rfl⟩, hb3⟩
      · have Y2 := hide (Y1.out.below hb3 Y1.out.lt)
        have B3 := hide (B2.out.trans (hb3.mono B2.out.size))
        have HO := hide ho
        clear hb3 Y1 B2 ho
        go_wp2_with (refine wpList_load186 rfl (.tmp 10) rfl wr.heap.size 186 rfl Y2.out ?_)
        refine (C98.out w3 B3.out).mono ?_
        rintro e w4 ⟨⟨c2, v2, at2, ho2, hat2, rfl, ⟨A5, k5, rfl, _⟩⟩ | ⟨m, ho2, rfl⟩, hb4⟩
        · have B4 := hide (Bl.alloc' (B3.out.trans (hb4.mono B3.out.size)) (.cells #[.int .i64 W, .int .i64 cap, .int .i64 c2.i, .int .i64 c2.nx, .slice A5 c2.ls.length k5] 186))
          have HS := hide (sampM_step (d := dn) HC.out ho2)
          clear hb4 ho2 Y2 B3
          go_wp2
          go_roundw
          case rel => exact ⟨j + 1, at2, dn ++ [c2], by omega, by first | rfl | go_num, rfl, hat2, by rw [← HS.out]; exact HP.out, HB.out.trans (B4.out.mono hsz)⟩
          case measure => simp [intOf]; omega
        · rw [HO.out] at ho2; cases ho2
      · have HO := hide (show sampM W cap v cs l = .need m by rw [← HP.out, sampM_needs HC.out ho])
        have B3 := hide (B2.out.trans (hb3.mono B2.out.size))
        clear hb3 ho
        go_wp2
        go_ret2
        exact ⟨.inr ⟨m, HO.out, rfl⟩, B1.out.trans ((HB.out.trans (B3.out.mono hsz)).mono B1.out.size)⟩
    · have hje : j = n := by omega
      subst hje
      have hge : ¬ (j : Int) < (j : Int) := by omega
      have HO := hide (show sampM W cap v cs l = .ok dn (l.drop at') by rw [← HP.out, List.drop_of_length_le (by have := HN.out; omega)]; simp [sampM, preS])
      go_wp2
      go_ret2
      exact ⟨.inl ⟨_, _, HO.out, rfl⟩, B1.out.trans (HB.out.mono B1.out.size)⟩
end Go.Proofs.YtbageimconenlaaGreat
