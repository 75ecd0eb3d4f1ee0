/- The law of the samples: the walk. -/
import Derived.Test.YtbageimconenlaaGreatEG
namespace Go.Proofs.YtbageimconenlaaGreat
open Go.RowKit En
set_option linter.unusedVariables false
theorem i64_wf {x : Int} (h : (Lit.int .i64 x).wf = true) : -9223372036854775808 ≤ x ∧ x ≤ 9223372036854775807 := by
  have h1 : IntKind.i64.min ≤ x ∧ x ≤ 9223372036854775807 := by simpa [Lit.wf] using h
  exact ⟨h1.1, h1.2⟩
section
variable {l0 l1 : List Int} {n0 n1 c0 c1 : Nat} {A0 A1 : Option Addr} {w : World}
theorem awake_ok {s : St} {o : Oper} {c : Call} (ho : o.op = .call c) (hc : c.callee = .value (.func 15)) (hargs : evs s c.args.toList = some []) : AOk Tryz.prog s o ⟨rq s c.args.toList, []⟩ ⟨.bool true, [], []⟩ := ok_g_awake ho hc hargs
set_option maxRecDepth 100000 in
set_option maxHeartbeats 4000000 in
theorem f3_core (a2 a3 : Int) (h0 : SL w A0 n0 c0 1 (l0.map (Value.int .i64))) (h1 : SL w A1 n1 c1 1 (l1.map (Value.int .i64))) (hr0 : ∀ x ∈ l0, -9223372036854775808 ≤ x ∧ x ≤ 9223372036854775807) :
    Calls Tryz.prog 3 #[.slice A0 n0 c0, .slice A1 n1 c1, .int .i64 a2, .int .i64 a3] w (fun e w' => e = .returned (.bool true) ∧ Below w.heap.size w w') := by
  have hl0 : l0.length = n0 := by have := h0.sl.1; simpa using this
  have hl1 : l1.length = n1 := by have := h1.sl.1; simpa using this
  obtain ⟨W, hW⟩ : ∃ W : Int, 1 + a3 % 8 = W := ⟨_, rfl⟩
  have hW1 : 1 ≤ W := by have := Int.emod_nonneg a3 (b := 8) (by decide); omega
  have hW2 : W ≤ 8 := by have := Int.emod_lt_of_pos a3 (b := 8) (by decide); omega
  obtain ⟨n, hn⟩ : ∃ n : Nat, 1 + a2 % 3 = (n : Int) := ⟨(1 + a2 % 3).toNat, by have := Int.emod_nonneg a2 (b := 3) (by decide); omega⟩
  have hn1 : 1 ≤ n := by have := Int.emod_nonneg a2 (b := 3) (by decide); omega
  have hn2 : n ≤ 3 := by have := Int.emod_lt_of_pos a2 (b := 3) (by decide); omega
  have hwW : IntKind.i64.wrap (1 + a3 % 8) = W := by rw [IntWalk.i64_in _ (by omega)]; exact hW
  have hwn : IntKind.i64.wrap (1 + a2 % 3) = n := by rw [IntWalk.i64_in _ (by omega)]; exact hn
  have H := fun_fin tblOK (I := 2) mixedP Tryz.func3 rfl [(.slice (some ⟨0, 0, none⟩) n0 0), (.slice (some ⟨1, 0, none⟩) n1 0), .int .i64 a2, .int .i64 a3] [(0, .view 1 (l0.map (Value.int .i64))), (1, .view 1 (l1.map (Value.int .i64)))] (fun k => if k = 0 then plOf A0 c0 else plOf A1 c1) w 139 [(0, (.slice (some ⟨0, 0, none⟩) n0 0)), (1, (.slice (some ⟨1, 0, none⟩) n1 0)), (2, .int .i64 a2), (3, .int .i64 a3)] rfl rfl (by kernel_rfl) [1, 0] rfl rfl rfl (fun m b hmb => by
    rw [En.lk_cons] at hmb
    split at hmb
    · rename_i e
      subst e
      cases hmb
      exact ⟨by omega, h0.view (allFC_ints _) (by decide) rfl, fun v hv => NBc.flat (allFC_spec (allFC_ints _) v hv), fun hw => hw⟩
    · rw [En.lk_cons] at hmb
      split at hmb
      · rename_i e
        subst e
        cases hmb
        exact ⟨by omega, h1.view (allFC_ints _) (by decide) rfl, fun v hv => NBc.flat (allFC_spec (allFC_ints _) v hv), fun hw => hw⟩
      · cases hmb) (fun u _ => u = .bool true) (by
    repeat' (first
      | refine AR.auto rfl ?_
      | refine AR.man (ok_f6 (by decide) (by decide) rfl rfl rfl) rfl rfl rfl ?_
      | refine AR.man (ok_f8 (by decide) (by decide) rfl rfl rfl) rfl rfl rfl ?_
      | refine AR.man (ok_f7 2 n hn1 (by omega) hW1 (by omega) rfl rfl rfl rfl) rfl rfl rfl ?_
      | refine AR.man (ok_f9 4 rfl rfl rfl rfl rfl) rfl rfl rfl ?_
      | refine AR.nil ?_
      | refine KF.mk ?_
      | refine KT.mk (by kernel_rfl) ?_
      | refine SQ.normal ?_
      | refine AC.seq ?_
      | refine AC.regF ?_
      | refine AC.regT ?_
      | refine AC.condT rfl ?_
      | refine AC.condF rfl ?_
      | refine AC.block ?_
      | refine BQ.normal ?_
      | refine BQ.ret ?_
      | refine BQ.here ?_
      | refine BQ.there rfl ?_
      | refine SQ.ret ?_
      | refine SQ.exit ?_
      | refine AC.ret ?_
      | refine AC.exit ?_
      | refine AC.skip ?_
      | rw [hwW]
      | rw [hwn]
      | (refine AR.split rfl (fun h => ?_) (fun h => ?_) <;> rw [h])
      | (refine AC.cond rfl (fun h => ?_) (fun h => ?_) <;> rw [h])
      | refine FQ.ret rfl rfl ?_
      | refine FQ.normal rfl rfl ?_)
    refine AC.loop (fun m s => ∃ (i at_ : Nat) (cs : List Ch), m = 31 - i ∧ i ≤ 30 ∧ i ≤ n0 ∧ at_ ≤ n1 ∧ StI W n ((l0.take i).map valM) cs ∧ s = ⟨[(12, .int .i64 (i : Nat)), (11, .pointer (some ⟨4, 0, none⟩)), (10, .int .i64 0), (9, .pointer (some ⟨3, 0, none⟩)), (3, .int .i64 W), (2, .int .i64 a2), (0, .slice (some ⟨0, 0, none⟩) n0 0)], [(4, .row 124 [.slice (some ⟨1, 0, none⟩) n1 0, .int .i64 (at_ : Nat)]), (3, .row 56 (syn9 W 64 (some ⟨2, 0, none⟩) n 0).toList), (2, .deep (synD W cs)), (0, .view 1 (l0.map (Value.int .i64))), (1, .view 1 (l1.map (Value.int .i64)))], [4, 3, 2, 1, 0], 139⟩) 31 _ ?_ ⟨0, 0, List.replicate n ch0, rfl, Nat.zero_le _, Nat.zero_le _, Nat.zero_le _, StI.start n hW1 (by omega), rfl⟩ ?_
    · exact Ren.mv (tabF []) rfl (fun k hk => by match k, hk with | 0, _ => exact ⟨rfl, rfl⟩ | 1, _ => exact ⟨rfl, rfl⟩) ⟨⟨rfl, rfl⟩, ⟨rfl, rfl⟩, ⟨rfl, rfl⟩, ⟨rfl, rfl⟩, ⟨rfl, rfl⟩, ⟨rfl, rfl⟩, ⟨rfl, rfl⟩, trivial⟩ ⟨⟨rfl, rfl, rfl⟩, ⟨rfl, rfl, rfl⟩, ⟨rfl, rfl, rfl⟩, ⟨by rw [mv_view]; rfl, rfl, allNC_ints _ _⟩, ⟨by rw [mv_view]; rfl, rfl, allNC_ints _ _⟩, trivial⟩ rfl
    intro m s hi
    obtain ⟨i, at_, cs, rfl, hi30, hin, hat, hS, rfl⟩ := hi
    have hvl : (((l0.take i).map valM).length : Int) = i := by simp; omega
    by_cases hc : i < n0 ∧ i < 30
    · have hd1 : decide ((i : Int) < (n0 : Int)) = true := by simp; omega
      have hd2 : decide ((i : Int) < 30) = true := by simp; omega
      obtain ⟨x, hx⟩ : ∃ x, l0[i]? = some x := ⟨l0[i]'(by omega), List.getElem?_eq_getElem (by omega)⟩
      have hxr := hr0 x (List.mem_of_getElem? hx)
      have hxc : (l0.map (Value.int .i64))[i]? = some (.int .i64 x) := by rw [List.getElem?_map, hx]; rfl
      have hvb := valM_bd x
      obtain ⟨v, hv⟩ : ∃ v, valM x = v := ⟨_, rfl⟩
      rw [hv] at hvb
      have hVC := hS.vcs hn1 (by omega)
      rw [hvl] at hVC
      repeat' (first
        | refine AR.auto rfl ?_
        | refine AR.man (ok_idx (i := i) rfl rfl rfl rfl (nonE_view 1 (by omega)) (by omega)) rfl rfl rfl ?_
        | refine AR.man (ok_ld (u := x) rfl rfl rfl hxc) rfl rfl rfl ?_
        | refine AR.man (ok_f10 hxr rfl rfl rfl) rfl rfl rfl ?_
        | refine AR.nil ?_
        | refine KF.mk ?_
        | refine KT.mk (by kernel_rfl) ?_
        | refine SQ.normal ?_
        | refine AC.seq ?_
        | refine AC.regF ?_
        | refine AC.regT ?_
        | refine AC.condT rfl ?_
        | refine AC.condF rfl ?_
        | refine AC.block ?_
        | refine BQ.normal ?_
        | refine BQ.ret ?_
        | refine BQ.here ?_
        | refine BQ.there rfl ?_
        | refine SQ.ret ?_
        | refine SQ.exit ?_
        | refine AC.ret ?_
        | refine AC.exit ?_
        | refine AC.skip ?_
        | rw [hd1]
        | rw [hd2]
        | rw [hv]
        | (refine AR.split rfl (fun h => ?_) (fun h => ?_) <;> rw [h])
        | (refine AC.cond rfl (fun h => ?_) (fun h => ?_) <;> rw [h])
        | refine FQ.ret rfl rfl ?_
        | refine FQ.normal rfl rfl ?_)
      refine AC.loop (fun m s => ∃ (at_ nd : Nat) (ds : List Int), m = 7 - nd ∧ nd = ds.length ∧ nd ≤ 6 ∧ at_ ≤ n1 ∧ Next1S (sampM W 64 v cs ds) ∧ s = ⟨[(14, .slice (some ⟨5, 0, none⟩) nd 0), (13, .int .i64 v), (12, .int .i64 (i : Nat)), (11, .pointer (some ⟨4, 0, none⟩)), (10, .int .i64 0), (9, .pointer (some ⟨3, 0, none⟩)), (3, .int .i64 W), (2, .int .i64 a2), (0, .slice (some ⟨0, 0, none⟩) n0 0)], [(5, .vec 2 1 (ds.map (Value.int .i64))), (4, .row 124 [.slice (some ⟨1, 0, none⟩) n1 0, .int .i64 (at_ : Nat)]), (3, .row 56 (syn9 W 64 (some ⟨2, 0, none⟩) n 0).toList), (2, .deep (synD W cs)), (0, .view 1 (l0.map (Value.int .i64))), (1, .view 1 (l1.map (Value.int .i64)))], [5, 4, 3, 2, 1, 0], 139⟩) 7 _ ?_ ⟨at_, 0, [], rfl, rfl, by omega, hat, hS.none_ (by omega), rfl⟩ ?_
      · refine Ren.trans (Ren.vnil 14 2 1 5 rfl rfl) ?_
        exact Ren.mv (tabF []) rfl (fun k hk => by match k, hk with | 0, _ => exact ⟨rfl, rfl⟩ | 1, _ => exact ⟨rfl, rfl⟩) ⟨⟨rfl, rfl⟩, ⟨rfl, rfl⟩, ⟨rfl, rfl⟩, ⟨rfl, rfl⟩, ⟨rfl, rfl⟩, ⟨rfl, rfl⟩, ⟨rfl, rfl⟩, ⟨rfl, rfl⟩, ⟨rfl, rfl⟩, trivial⟩ ⟨⟨by rw [mv_vec]; rfl, rfl, allNC_ints _ _⟩, ⟨rfl, rfl, rfl⟩, ⟨rfl, rfl, rfl⟩, ⟨rfl, rfl, rfl⟩, ⟨by rw [mv_view]; rfl, rfl, allNC_ints _ _⟩, ⟨by rw [mv_view]; rfl, rfl, allNC_ints _ _⟩, trivial⟩ rfl
      clear hat at_
      intro m s hi
      obtain ⟨at_, nd, ds, rfl, hnd, hnd6, hat, hN, rfl⟩ := hi
      have hd3 : decide ((nd : Int) < 20) = true := by simp; omega
      rcases hN with ⟨m, hm⟩ | ⟨cs', hm⟩
      · obtain ⟨hm1, hm2, hm3⟩ := hS.need (by omega) hm
        have hmW := sampM_needW _ _ _ hm
        have hd4 : decide (m < 1) = false := by simp; omega
        have hdb := drawV_bd l1 at_ hm1
        have hnn : n1 ≤ 9223372036854775807 := by have := h1.le; have := h1.mx; unfold maxLen at this; omega
        have hlen : cs.length = n := hS.len
        have hid : drawA l1 at_ ≤ n1 := drawA_le hl1 hat m
        have hnx := hm3 _ hdb.1 hdb.2
        repeat' (first
          | refine AR.auto rfl ?_
          | refine AR.man (ok_f11n (m := m) hVC (by omega) hvb.1 hvb.2 (by omega) hlen hnd.symm rfl (by omega) hm rfl rfl rfl rfl rfl) rfl rfl rfl ?_
          | refine AR.man (ok_f12 hl1 hnn hm1 (by omega) (by decide) rfl rfl rfl hat rfl rfl) rfl rfl rfl ?_
          | refine AR.man (ok_app 7 (by simp [hnd]) (by omega) rfl rfl rfl rfl rfl rfl rfl rfl rfl) rfl rfl rfl ?_
          | refine AR.nil ?_
          | refine KF.mk ?_
          | refine KT.mk (by kernel_rfl) ?_
          | refine SQ.normal ?_
          | refine AC.seq ?_
          | refine AC.regF ?_
          | refine AC.regT ?_
          | refine AC.condT rfl ?_
          | refine AC.condF rfl ?_
          | refine AC.block ?_
          | refine BQ.normal ?_
          | refine BQ.ret ?_
          | refine BQ.here ?_
          | refine BQ.there rfl ?_
          | refine SQ.ret ?_
          | refine SQ.exit ?_
          | refine AC.ret ?_
          | refine AC.exit ?_
          | refine AC.skip ?_
          | rw [hd3]
          | rw [hd4]
          | (refine AR.split rfl (fun h => ?_) (fun h => ?_) <;> rw [h])
          | (refine AC.cond rfl (fun h => ?_) (fun h => ?_) <;> rw [h])
          | refine FQ.ret rfl rfl ?_
          | refine FQ.normal rfl rfl ?_)
        refine ⟨7 - (nd + 1), _, by omega, ?_, drawA l1 at_, nd + 1, ds ++ [drawV l1 at_ m], rfl, by simp [hnd], by omega, hid, hnx, rfl⟩
        exact Ren.mv (tabF [(5, 7)]) rfl (fun k hk => by match k, hk with | 0, _ => exact ⟨rfl, rfl⟩ | 1, _ => exact ⟨rfl, rfl⟩) ⟨⟨rfl, rfl⟩, ⟨rfl, rfl⟩, ⟨rfl, rfl⟩, ⟨rfl, rfl⟩, ⟨rfl, rfl⟩, ⟨rfl, rfl⟩, ⟨rfl, rfl⟩, ⟨rfl, rfl⟩, ⟨rfl, rfl⟩, trivial⟩ ⟨⟨by rw [mv_vec, ← map_snoc]; rfl, rfl, allNC_ints _ _⟩, ⟨rfl, rfl, rfl⟩, ⟨rfl, rfl, rfl⟩, ⟨rfl, rfl, rfl⟩, ⟨by rw [mv_view]; rfl, rfl, allNC_ints _ _⟩, ⟨by rw [mv_view]; rfl, rfl, allNC_ints _ _⟩, trivial⟩ rfl
      · have hlen : cs.length = n := hS.len
        have hS' := hS.next hvb (by rw [hvl]; omega) hm
        rw [show (l0.take i).map valM ++ [v] = (l0.take (i + 1)).map valM from by rw [List.take_add_one, hx]; simp [hv]] at hS'
        have hVC' := hS'.vcs hn1 (by omega)
        have hvl' : (((l0.take (i + 1)).map valM).length : Int) = i + 1 := by simp; omega
        rw [hvl'] at hVC'
        have hlen' : cs'.length = n := hS'.len
        have hd7 : ((n : Int) != (n : Int)) = false := by simp
        obtain ⟨us, hus⟩ : ∃ us, cs'.map headV = us := ⟨_, rfl⟩
        have hul : us.length = n := by rw [← hus, List.length_map, hlen']
        repeat' (first
          | refine AR.auto rfl ?_
          | refine AR.man (ok_f11k hVC (by omega) hvb.1 hvb.2 (by omega) hlen hnd.symm rfl (by omega) hm rfl rfl rfl rfl rfl) rfl rfl rfl ?_
          | refine AR.man (ok_f13 6 hVC (by omega) hvb.1 hvb.2 (by omega) hlen hnd.symm rfl (by omega) hm rfl rfl rfl rfl rfl rfl) rfl rfl rfl ?_
          | refine AR.man (ok_f14 7 (C := us.map (Value.int .i64)) hVC' (by omega) hlen' (by rw [hus]) rfl rfl rfl rfl rfl) rfl rfl rfl ?_
          | refine AR.man (ok_f8 (by decide) (by decide) rfl rfl rfl) rfl rfl rfl ?_
          | refine AR.nil ?_
          | refine KF.mk ?_
          | refine KT.mk (by kernel_rfl) ?_
          | refine SQ.normal ?_
          | refine AC.seq ?_
          | refine AC.regF ?_
          | refine AC.regT ?_
          | refine AC.condT rfl ?_
          | refine AC.condF rfl ?_
          | refine AC.block ?_
          | refine BQ.normal ?_
          | refine BQ.ret ?_
          | refine BQ.here ?_
          | refine BQ.there rfl ?_
          | refine SQ.ret ?_
          | refine SQ.exit ?_
          | refine AC.ret ?_
          | refine AC.exit ?_
          | refine AC.skip ?_
          | rw [hd3]
          | rw [hwn]
          | rw [hd7]
          | (refine AR.split rfl (fun h => ?_) (fun h => ?_) <;> rw [h])
          | (refine AC.cond rfl (fun h => ?_) (fun h => ?_) <;> rw [h])
          | refine FQ.ret rfl rfl ?_
          | refine FQ.normal rfl rfl ?_)
        refine AC.loop (fun m s => ∃ (j : Nat), m = n - j ∧ j ≤ n ∧ s = ⟨[(107, .int .i64 (j : Nat)), (106, .int .i64 (n : Nat)), (105, .slice (some ⟨5, 0, none⟩) n 0), (12, .int .i64 (i : Nat)), (11, .pointer (some ⟨4, 0, none⟩)), (10, .int .i64 0), (9, .pointer (some ⟨3, 0, none⟩)), (3, .int .i64 W), (2, .int .i64 a2), (0, .slice (some ⟨0, 0, none⟩) n0 0)], [(5, .vec 2 1 (us.map (Value.int .i64))), (4, .row 124 [.slice (some ⟨1, 0, none⟩) n1 0, .int .i64 (at_ : Nat)]), (3, .row 56 (syn9 W 64 (some ⟨2, 0, none⟩) n 0).toList), (2, .deep (synD W cs')), (0, .view 1 (l0.map (Value.int .i64))), (1, .view 1 (l1.map (Value.int .i64)))], [5, 4, 3, 2, 1, 0], 139⟩) n _ ?_ ⟨0, rfl, Nat.zero_le _, rfl⟩ ?_
        · exact Ren.mv (tabF [(5, 7), (2, 6)]) rfl (fun k hk => by match k, hk with | 0, _ => exact ⟨rfl, rfl⟩ | 1, _ => exact ⟨rfl, rfl⟩) ⟨⟨rfl, rfl⟩, ⟨rfl, rfl⟩, ⟨rfl, rfl⟩, ⟨rfl, rfl⟩, ⟨rfl, rfl⟩, ⟨rfl, rfl⟩, ⟨rfl, rfl⟩, ⟨rfl, rfl⟩, ⟨rfl, rfl⟩, ⟨rfl, rfl⟩, trivial⟩ ⟨⟨by rw [mv_vec]; rfl, rfl, allNC_ints _ _⟩, ⟨rfl, rfl, rfl⟩, ⟨rfl, rfl, rfl⟩, ⟨rfl, rfl, rfl⟩, ⟨by rw [mv_view]; rfl, rfl, allNC_ints _ _⟩, ⟨by rw [mv_view]; rfl, rfl, allNC_ints _ _⟩, trivial⟩ rfl
        intro m s hi
        obtain ⟨j, rfl, hj, rfl⟩ := hi
        by_cases hjn : j < n
        · have hd5 : decide ((j : Int) < (n : Int)) = true := by simp; omega
          obtain ⟨u, hu⟩ : ∃ u, us[j]? = some u := ⟨us[j]'(by omega), List.getElem?_eq_getElem (by omega)⟩
          have huc : (us.map (Value.int .i64))[j]? = some (.int .i64 u) := by rw [List.getElem?_map, hu]; rfl
          have hi1 : IntKind.i64.wrap ((i : Int) + 1) = ((i + 1 : Nat) : Int) := by rw [IntWalk.i64_in _ (by omega)]; rfl
          obtain ⟨e, he⟩ : ∃ e : Int, ((i + 1 : Nat) : Int) - W = e := ⟨_, rfl⟩
          have hi2 : IntKind.i64.wrap (((i + 1 : Nat) : Int) - W) = e := by rw [IntWalk.i64_in _ (by omega)]; exact he
          obtain ⟨lo, hlo⟩ : ∃ lo : Nat, (if e > 0 then e else 0) = (lo : Int) := ⟨e.toNat, by split <;> omega⟩
          have hlo1 : lo ≤ i + 1 := by split at hlo <;> omega
          have hlo2 : lo = 0 ∨ (lo : Int) + W ≤ ((i + 1 : Nat) : Int) := by split at hlo <;> omega
          have hin : InM ((l0.take (i + 1)).map valM) lo (i + 1) u := by
            rw [← hus, List.getElem?_map] at hu
            cases hcj : cs'[j]? with
            | none => rw [hcj] at hu; cases hu
            | some cj =>
              rw [hcj] at hu
              cases hu
              have := hS'.head (by omega) (List.mem_of_getElem? hcj) (lo := lo) (by rw [hvl']; rcases hlo2 with h | h; exact .inl h; exact .inr (by omega))
              rw [show ((l0.take (i + 1)).map valM).length = i + 1 by omega] at this
              exact this
          repeat' (first
            | refine AR.auto rfl ?_
            | refine AR.man (ok_idx (A0 := 5) (i := j) rfl rfl rfl rfl (nonE_vec 2 1 (by omega)) (by omega)) rfl rfl rfl ?_
            | refine AR.man (ok_ld (u := u) rfl rfl rfl huc) rfl rfl rfl ?_
            | refine AR.man (ok_max (r := (lo : Int)) hlo rfl rfl rfl rfl rfl) rfl rfl rfl ?_
            | refine AR.nil ?_
            | refine KF.mk ?_
            | refine KT.mk (by kernel_rfl) ?_
            | refine SQ.normal ?_
            | refine AC.seq ?_
            | refine AC.regF ?_
            | refine AC.regT ?_
            | refine AC.condT rfl ?_
            | refine AC.condF rfl ?_
            | refine AC.block ?_
            | refine BQ.normal ?_
            | refine BQ.ret ?_
            | refine BQ.here ?_
            | refine BQ.there rfl ?_
            | refine SQ.ret ?_
            | refine SQ.exit ?_
            | refine AC.ret ?_
            | refine AC.exit ?_
            | refine AC.skip ?_
            | rw [hd5]
            | rw [hi1]
            | rw [hi2]
            | (refine AR.split rfl (fun h => ?_) (fun h => ?_) <;> rw [h])
            | (refine AC.cond rfl (fun h => ?_) (fun h => ?_) <;> rw [h])
            | refine FQ.ret rfl rfl ?_
            | refine FQ.normal rfl rfl ?_)
          refine AC.loop (fun m s => ∃ (k : Nat) (b : Bool), m = i + 1 - k ∧ lo ≤ k ∧ k ≤ i + 1 ∧ (b = true ↔ InM ((l0.take (i + 1)).map valM) lo k u) ∧ s = ⟨[(22, .int .i64 (k : Nat)), (21, .bool b), (20, .int .i64 u), (107, .int .i64 (j : Nat)), (106, .int .i64 (n : Nat)), (105, .slice (some ⟨5, 0, none⟩) n 0), (12, .int .i64 (i : Nat)), (11, .pointer (some ⟨4, 0, none⟩)), (10, .int .i64 0), (9, .pointer (some ⟨3, 0, none⟩)), (3, .int .i64 W), (2, .int .i64 a2), (0, .slice (some ⟨0, 0, none⟩) n0 0)], [(5, .vec 2 1 (us.map (Value.int .i64))), (4, .row 124 [.slice (some ⟨1, 0, none⟩) n1 0, .int .i64 (at_ : Nat)]), (3, .row 56 (syn9 W 64 (some ⟨2, 0, none⟩) n 0).toList), (2, .deep (synD W cs')), (0, .view 1 (l0.map (Value.int .i64))), (1, .view 1 (l1.map (Value.int .i64)))], [5, 4, 3, 2, 1, 0], 139⟩) (i + 1 - lo) _ ?_ ⟨lo, false, rfl, Nat.le_refl _, hlo1, ⟨fun h => Bool.noConfusion h, fun h => absurd h InM.none_⟩, rfl⟩ ?_
          · exact Ren.mv (tabF []) rfl (fun k hk => by match k, hk with | 0, _ => exact ⟨rfl, rfl⟩ | 1, _ => exact ⟨rfl, rfl⟩) ⟨⟨rfl, rfl⟩, ⟨rfl, rfl⟩, ⟨rfl, rfl⟩, ⟨rfl, rfl⟩, ⟨rfl, rfl⟩, ⟨rfl, rfl⟩, ⟨rfl, rfl⟩, ⟨rfl, rfl⟩, ⟨rfl, rfl⟩, ⟨rfl, rfl⟩, ⟨rfl, rfl⟩, ⟨rfl, rfl⟩, ⟨rfl, rfl⟩, trivial⟩ ⟨⟨by rw [mv_vec]; rfl, rfl, allNC_ints _ _⟩, ⟨rfl, rfl, rfl⟩, ⟨rfl, rfl, rfl⟩, ⟨rfl, rfl, rfl⟩, ⟨by rw [mv_view]; rfl, rfl, allNC_ints _ _⟩, ⟨by rw [mv_view]; rfl, rfl, allNC_ints _ _⟩, trivial⟩ rfl
          intro m s hi
          obtain ⟨k, b, rfl, hk1, hk2, hb, rfl⟩ := hi
          by_cases hki : k ≤ i
          · have hd6 : decide ((k : Int) ≤ (i : Int)) = true := by simp; omega
            have hk3 : IntKind.i64.wrap ((k : Int) + 1) = ((k + 1 : Nat) : Int) := by rw [IntWalk.i64_in _ (by omega)]; rfl
            obtain ⟨y, hy⟩ : ∃ y, l0[k]? = some y := ⟨l0[k]'(by omega), List.getElem?_eq_getElem (by omega)⟩
            have hyr := hr0 y (List.mem_of_getElem? hy)
            have hyc : (l0.map (Value.int .i64))[k]? = some (.int .i64 y) := by rw [List.getElem?_map, hy]; rfl
            have hyv : ((l0.take (i + 1)).map valM)[k]? = some (valM y) := by rw [List.getElem?_map, List.getElem?_take_of_lt (by omega), hy]; rfl
            cases b with
            | true =>
              repeat' (first
                | refine AR.auto rfl ?_
                | refine AR.nil ?_
                | refine KF.mk ?_
                | refine KT.mk (by kernel_rfl) ?_
                | refine SQ.normal ?_
                | refine AC.seq ?_
                | refine AC.regF ?_
                | refine AC.regT ?_
                | refine AC.condT rfl ?_
                | refine AC.condF rfl ?_
                | refine AC.block ?_
                | refine BQ.normal ?_
                | refine BQ.ret ?_
                | refine BQ.here ?_
                | refine BQ.there rfl ?_
                | refine SQ.ret ?_
                | refine SQ.exit ?_
                | refine AC.ret ?_
                | refine AC.exit ?_
                | refine AC.skip ?_
                | rw [hd6]
                | rw [hk3]
                | (refine AR.split rfl (fun h => ?_) (fun h => ?_) <;> rw [h])
                | (refine AC.cond rfl (fun h => ?_) (fun h => ?_) <;> rw [h])
                | refine FQ.ret rfl rfl ?_
                | refine FQ.normal rfl rfl ?_)
              refine ⟨i + 1 - (k + 1), _, by omega, ?_, k + 1, true, rfl, by omega, by omega, ⟨fun _ => (hb.1 rfl).more, fun _ => rfl⟩, rfl⟩
              exact Ren.mv (tabF []) rfl (fun k hk => by match k, hk with | 0, _ => exact ⟨rfl, rfl⟩ | 1, _ => exact ⟨rfl, rfl⟩) ⟨⟨rfl, rfl⟩, ⟨rfl, rfl⟩, ⟨rfl, rfl⟩, ⟨rfl, rfl⟩, ⟨rfl, rfl⟩, ⟨rfl, rfl⟩, ⟨rfl, rfl⟩, ⟨rfl, rfl⟩, ⟨rfl, rfl⟩, ⟨rfl, rfl⟩, ⟨rfl, rfl⟩, ⟨rfl, rfl⟩, ⟨rfl, rfl⟩, trivial⟩ ⟨⟨by rw [mv_vec]; rfl, rfl, allNC_ints _ _⟩, ⟨rfl, rfl, rfl⟩, ⟨rfl, rfl, rfl⟩, ⟨rfl, rfl, rfl⟩, ⟨by rw [mv_view]; rfl, rfl, allNC_ints _ _⟩, ⟨by rw [mv_view]; rfl, rfl, allNC_ints _ _⟩, trivial⟩ rfl
            | false =>
              repeat' (first
                | refine AR.auto rfl ?_
                | refine AR.man (ok_idx (A0 := 0) (i := k) rfl rfl rfl rfl (nonE_view 1 (by omega)) (by omega)) rfl rfl rfl ?_
                | refine AR.man (ok_ld (u := y) rfl rfl rfl hyc) rfl rfl rfl ?_
                | refine AR.man (ok_f10 hyr rfl rfl rfl) rfl rfl rfl ?_
                | refine AR.nil ?_
                | refine KF.mk ?_
                | refine KT.mk (by kernel_rfl) ?_
                | refine SQ.normal ?_
                | refine AC.seq ?_
                | refine AC.regF ?_
                | refine AC.regT ?_
                | refine AC.condT rfl ?_
                | refine AC.condF rfl ?_
                | refine AC.block ?_
                | refine BQ.normal ?_
                | refine BQ.ret ?_
                | refine BQ.here ?_
                | refine BQ.there rfl ?_
                | refine SQ.ret ?_
                | refine SQ.exit ?_
                | refine AC.ret ?_
                | refine AC.exit ?_
                | refine AC.skip ?_
                | rw [hd6]
                | rw [hk3]
                | (refine AR.split rfl (fun h => ?_) (fun h => ?_) <;> rw [h])
                | (refine AC.cond rfl (fun h => ?_) (fun h => ?_) <;> rw [h])
                | refine FQ.ret rfl rfl ?_
                | refine FQ.normal rfl rfl ?_)
              refine ⟨i + 1 - (k + 1), _, by omega, ?_, k + 1, (valM y == u), rfl, by omega, by omega, ⟨fun h => InM.here (by rw [hyv, beq_iff_eq.1 h]) hk1, fun h => ?_⟩, rfl⟩
              · exact Ren.mv (tabF []) rfl (fun k hk => by match k, hk with | 0, _ => exact ⟨rfl, rfl⟩ | 1, _ => exact ⟨rfl, rfl⟩) ⟨⟨rfl, rfl⟩, ⟨rfl, rfl⟩, ⟨rfl, rfl⟩, ⟨rfl, rfl⟩, ⟨rfl, rfl⟩, ⟨rfl, rfl⟩, ⟨rfl, rfl⟩, ⟨rfl, rfl⟩, ⟨rfl, rfl⟩, ⟨rfl, rfl⟩, ⟨rfl, rfl⟩, ⟨rfl, rfl⟩, ⟨rfl, rfl⟩, trivial⟩ ⟨⟨by rw [mv_vec]; rfl, rfl, allNC_ints _ _⟩, ⟨rfl, rfl, rfl⟩, ⟨rfl, rfl, rfl⟩, ⟨rfl, rfl, rfl⟩, ⟨by rw [mv_view]; rfl, rfl, allNC_ints _ _⟩, ⟨by rw [mv_view]; rfl, rfl, allNC_ints _ _⟩, trivial⟩ rfl
              · cases hyu : (valM y == u) with
                | true => rfl
                | false => exact absurd h (InM.no (fun h => by have := hb.2 h; cases this) hyv (fun h => by rw [h] at hyu; simp at hyu))
          · have hd6 : decide ((k : Int) ≤ (i : Int)) = false := by simp; omega
            obtain rfl : k = i + 1 := by omega
            obtain rfl := hb.2 hin
            have hj1 : IntKind.i64.wrap ((j : Int) + 1) = ((j + 1 : Nat) : Int) := by rw [IntWalk.i64_in _ (by omega)]; rfl
            repeat' (first
              | refine AR.auto rfl ?_
              | refine AR.nil ?_
              | refine KF.mk ?_
              | refine KT.mk (by kernel_rfl) ?_
              | refine SQ.normal ?_
              | refine AC.seq ?_
              | refine AC.regF ?_
              | refine AC.regT ?_
              | refine AC.condT rfl ?_
              | refine AC.condF rfl ?_
              | refine AC.block ?_
              | refine BQ.normal ?_
              | refine BQ.ret ?_
              | refine BQ.here ?_
              | refine BQ.there rfl ?_
              | refine SQ.ret ?_
              | refine SQ.exit ?_
              | refine AC.ret ?_
              | refine AC.exit ?_
              | refine AC.skip ?_
              | rw [hd6]
              | rw [hj1]
              | (refine AR.split rfl (fun h => ?_) (fun h => ?_) <;> rw [h])
              | (refine AC.cond rfl (fun h => ?_) (fun h => ?_) <;> rw [h])
              | refine FQ.ret rfl rfl ?_
              | refine FQ.normal rfl rfl ?_)
            refine ⟨n - (j + 1), _, by omega, ?_, j + 1, rfl, by omega, rfl⟩
            exact Ren.mv (tabF []) rfl (fun k hk => by match k, hk with | 0, _ => exact ⟨rfl, rfl⟩ | 1, _ => exact ⟨rfl, rfl⟩) ⟨⟨rfl, rfl⟩, ⟨rfl, rfl⟩, ⟨rfl, rfl⟩, ⟨rfl, rfl⟩, ⟨rfl, rfl⟩, ⟨rfl, rfl⟩, ⟨rfl, rfl⟩, ⟨rfl, rfl⟩, ⟨rfl, rfl⟩, ⟨rfl, rfl⟩, trivial⟩ ⟨⟨by rw [mv_vec]; rfl, rfl, allNC_ints _ _⟩, ⟨rfl, rfl, rfl⟩, ⟨rfl, rfl, rfl⟩, ⟨rfl, rfl, rfl⟩, ⟨by rw [mv_view]; rfl, rfl, allNC_ints _ _⟩, ⟨by rw [mv_view]; rfl, rfl, allNC_ints _ _⟩, trivial⟩ rfl
        · have hd5 : decide ((j : Int) < (n : Int)) = false := by simp; omega
          have hi1 : IntKind.i64.wrap ((i : Int) + 1) = ((i + 1 : Nat) : Int) := by rw [IntWalk.i64_in _ (by omega)]; rfl
          repeat' (first
            | refine AR.auto rfl ?_
            | refine AR.nil ?_
            | refine KF.mk ?_
            | refine KT.mk (by kernel_rfl) ?_
            | refine SQ.normal ?_
            | refine AC.seq ?_
            | refine AC.regF ?_
            | refine AC.regT ?_
            | refine AC.condT rfl ?_
            | refine AC.condF rfl ?_
            | refine AC.block ?_
            | refine BQ.normal ?_
            | refine BQ.ret ?_
            | refine BQ.here ?_
            | refine BQ.there rfl ?_
            | refine SQ.ret ?_
            | refine SQ.exit ?_
            | refine AC.ret ?_
            | refine AC.exit ?_
            | refine AC.skip ?_
            | rw [hd5]
            | rw [hi1]
            | (refine AR.split rfl (fun h => ?_) (fun h => ?_) <;> rw [h])
            | (refine AC.cond rfl (fun h => ?_) (fun h => ?_) <;> rw [h])
            | refine FQ.ret rfl rfl ?_
            | refine FQ.normal rfl rfl ?_)
          refine ⟨31 - (i + 1), _, by omega, ?_, i + 1, at_, cs', rfl, by omega, by omega, hat, hS', rfl⟩
          exact Ren.mv (tabF []) rfl (fun k hk => by match k, hk with | 0, _ => exact ⟨rfl, rfl⟩ | 1, _ => exact ⟨rfl, rfl⟩) ⟨⟨rfl, rfl⟩, ⟨rfl, rfl⟩, ⟨rfl, rfl⟩, ⟨rfl, rfl⟩, ⟨rfl, rfl⟩, ⟨rfl, rfl⟩, ⟨rfl, rfl⟩, trivial⟩ ⟨⟨rfl, rfl, rfl⟩, ⟨rfl, rfl, rfl⟩, ⟨rfl, rfl, rfl⟩, ⟨by rw [mv_view]; rfl, rfl, allNC_ints _ _⟩, ⟨by rw [mv_view]; rfl, rfl, allNC_ints _ _⟩, trivial⟩ rfl
    · by_cases hi0 : i < n0
      · have hd1 : decide ((i : Int) < (n0 : Int)) = true := by simp; omega
        have hd2 : decide ((i : Int) < 30) = false := by simp; omega
        repeat' (first
          | refine AR.auto rfl ?_
          | refine AR.man (awake_ok rfl rfl rfl) rfl rfl rfl ?_
          | refine AR.nil ?_
          | refine KF.mk ?_
          | refine KT.mk (by kernel_rfl) ?_
          | refine SQ.normal ?_
          | refine AC.seq ?_
          | refine AC.regF ?_
          | refine AC.regT ?_
          | refine AC.condT rfl ?_
          | refine AC.condF rfl ?_
          | refine AC.block ?_
          | refine BQ.normal ?_
          | refine BQ.ret ?_
          | refine BQ.here ?_
          | refine BQ.there rfl ?_
          | refine SQ.ret ?_
          | refine SQ.exit ?_
          | refine AC.ret ?_
          | refine AC.exit ?_
          | refine AC.skip ?_
          | rw [hd1]
          | rw [hd2]
          | (refine AR.split rfl (fun h => ?_) (fun h => ?_) <;> rw [h])
          | (refine AC.cond rfl (fun h => ?_) (fun h => ?_) <;> rw [h])
          | refine FQ.ret rfl rfl ?_
          | refine FQ.normal rfl rfl ?_)
        rfl
      · have hd1 : decide ((i : Int) < (n0 : Int)) = false := by simp; omega
        repeat' (first
          | refine AR.auto rfl ?_
          | refine AR.man (awake_ok rfl rfl rfl) rfl rfl rfl ?_
          | refine AR.nil ?_
          | refine KF.mk ?_
          | refine KT.mk (by kernel_rfl) ?_
          | refine SQ.normal ?_
          | refine AC.seq ?_
          | refine AC.regF ?_
          | refine AC.regT ?_
          | refine AC.condT rfl ?_
          | refine AC.condF rfl ?_
          | refine AC.block ?_
          | refine BQ.normal ?_
          | refine BQ.ret ?_
          | refine BQ.here ?_
          | refine BQ.there rfl ?_
          | refine SQ.ret ?_
          | refine SQ.exit ?_
          | refine AC.ret ?_
          | refine AC.exit ?_
          | refine AC.skip ?_
          | rw [hd1]
          | (refine AR.split rfl (fun h => ?_) (fun h => ?_) <;> rw [h])
          | (refine AC.cond rfl (fun h => ?_) (fun h => ?_) <;> rw [h])
          | refine FQ.ret rfl rfl ?_
          | refine FQ.normal rfl rfl ?_)
        rfl)
  have hp0 : rV (fun k => if k = 0 then plOf A0 c0 else plOf A1 c1) (.slice (some ⟨0, 0, none⟩) n0 0) = .slice A0 n0 c0 := plOf_slice (ρ := fun k => if k = 0 then plOf A0 c0 else plOf A1 c1) (A := A0) (c := c0) (i := 0) (c0 := 0) rfl
  have hp1 : rV (fun k => if k = 0 then plOf A0 c0 else plOf A1 c1) (.slice (some ⟨1, 0, none⟩) n1 0) = .slice A1 n1 c1 := plOf_slice (ρ := fun k => if k = 0 then plOf A0 c0 else plOf A1 c1) (A := A1) (c := c1) (i := 1) (c0 := 0) rfl
  simp only [List.map_cons, List.map_nil, hp0, hp1] at H
  refine Calls.mono (show Calls Tryz.prog 3 #[.slice A0 n0 c0, .slice A1 n1 c1, .int .i64 a2, .int .i64 a3] w _ from H) fun e w' he => ?_
  obtain ⟨v, s, ρ, a, rfl, rfl, hs⟩ := he
  exact ⟨rfl, hs.bl⟩
end
theorem topSamples_walk (A0 : Option Addr) (n0 c0 : Nat) (z0 : List Int) (A1 : Option Addr) (n1 c1 : Nat) (z1 : List Int) (a2 a3 : Int) (w : World) (w0 : IsRow .i64 w A0 n0 c0 z0) (w1 : IsRow .i64 w A1 n1 c1 z1) (w2 : (Lit.int .i64 a2).wf = true) (w3 : (Lit.int .i64 a3).wf = true) :
    Calls Tryz.prog 3 #[.slice A0 n0 c0, .slice A1 n1 c1, .int .i64 a2, .int .i64 a3] w (fun e w' => e = .returned (.bool true) ∧ Below w.heap.size w w') := by
  obtain ⟨h0, hf0, hl0, hm0, _⟩ := w0.sl
  obtain ⟨h1, _, hl1, hm1, _⟩ := w1.sl
  exact f3_core a2 a3 ⟨SlK.of_sl h0, hl0, hm0⟩ ⟨SlK.of_sl h1, hl1, hm1⟩ fun x hx => i64_wf (hf0 x hx)
end Go.Proofs.YtbageimconenlaaGreat
