/- Lists of blocks: loads from a known place; what is known to be live. -/
import Derived.Test.YtbageimconenlaaGreatQO
import Derived.Test.YtbageimconenlaaGreatQR
namespace Go.Proofs.YtbageimconenlaaGreat
open Go.RowKit En
set_option linter.unusedVariables false
theorem ent198 : Enters Tryz.prog 198 := enters Tryz.func198 (by kernel_rfl) (by kernel_rfl)
theorem info271 : (Tryz.prog.info? 271).map (fun i => (i.size, i.bytes, i.zero.map (·.cells.size))) = some (2, 32, some 2) := by kernel_rfl
theorem info271x : ∃ ie, Tryz.prog.info? 271 = some ie ∧ ie.size = 2 := by
  have h := info271
  cases hi : Tryz.prog.info? 271 with
  | none => rw [hi] at h; cases h
  | some ie => rw [hi] at h; simp at h; exact ⟨ie, rfl, h.1⟩
theorem agg271 : aggB Tryz.prog 271 = some true := by kernel_rfl
theorem bkRL_at : ∀ (l : List Bk) (j i : Nat) (m : Bk), l[j]? = some m → i < 5 → (bkRL l)[j * 5 + i]? = (bkR m)[i]?
  | [], j, i, m, h, _ => by simp at h
  | x :: l, 0, i, m, h, hi => by
    simp at h; subst h
    rw [bkRL, Nat.zero_mul, Nat.zero_add, List.getElem?_append_left (by simp [bkR]; omega)]
  | x :: l, j + 1, i, m, h, hi => by
    simp at h
    rw [bkRL, List.getElem?_append_right (by simp [bkR]; omega)]
    rw [show (j + 1) * 5 + i - (bkR x).length = j * 5 + i by simp [bkR]; omega]
    exact bkRL_at l j i m h hi
theorem sl_cell {w : World} {A : Option Addr} {n c b o j i : Nat} {l : List Bk} {x : Bk} {v : Value} (h : SL w A n c 5 (bkRL l)) (hA : A = some ⟨b, o, none⟩) (hn : 0 < n) (hx : l[j]? = some x) (hv : (bkR x)[i]? = some v) : w.cell? ⟨b, o + j * 5 + i, none⟩ = some v := by
  obtain ⟨b', o', hA', _, hc⟩ := h.sl.2 hn
  rw [hA] at hA'
  cases hA'
  have hi : i < 5 := by have := (List.getElem?_eq_some_iff.1 hv).1; simpa [bkR] using this
  rw [Nat.add_assoc]
  exact hc _ v (by rw [bkRL_at l j i x hx hi]; exact hv)
section
variable {s : St} {o : Oper} {c : Call}
theorem okw_fldG {x : Operand} {T : TypeId} {b off f fo z : Nat} (hf : ([(0, 1), (1, 1), (2, 1), (3, 2)] : List (Nat × Nat))[f]? = some (fo, z)) (hz : 0 < z) (ho : o.op = .fieldAddr 273 x f) (hx : ev s x = some (.iface T (.pointer (some ⟨b, off, none⟩)))) :
    AOk Tryz.prog s o ⟨rq s [x], []⟩ ⟨.iface 0 (.pointer (some ⟨b, off + fo, none⟩)), [], []⟩ := by
  refine .quiet fun B => ⟨Does.value (fun al _ ρ ρ' _ => rfl) fun ρ a w hm => ?_, in_none, rfl, rfl⟩
  obtain ⟨_, _, hk⟩ := tblOK.at_ (t := 273) (ti := (En.lk tbl 273).get (by kernel_rfl)) (by kernel_rfl)
  obtain ⟨fs, hu, hfl⟩ : ∃ fs, Tryz.prog.underlying 273 = some (.struct fs) ∧ flds Tryz.prog fs.toList [(0, 1), (1, 1), (2, 1), (3, 2)] = true := hk
  obtain ⟨fl, i, hff, hfo, hi, hsz⟩ := flds_at (P := Tryz.prog) hfl hf
  have hax := ev_eval hm List.mem_cons_self hx
  have hne : ¬ i.size = 0 := by omega
  have hf' : fs[f]? = some fl := by simpa using hff
  have hxr : rV ρ (.iface T (.pointer (some ⟨b, off, none⟩))) = .pointer (some ⟨b, off, none⟩) := rfl
  have hvr : rV ρ (.iface 0 (.pointer (some ⟨b, off + fo, none⟩))) = .pointer (some ⟨b, off + fo, none⟩) := rfl
  unfold execOp
  simp only [ho, hax, hxr, hvr, Instr.fieldAt, Sem.run_bind, run_underlying hu, Result.andThen_ok, hf', Instr.sureAddr, Sem.run_pure, fieldPlace, sizeOf, typeInfo, program]
  simp [Sem.run, hi, hne, add_ptr, hfo]
theorem okr_ldG {e t : Nat} {F : Pl → World → Prop} {x : Operand} {T : TypeId} {b off : Nat} {u : Int} (ha : aggB Tryz.prog t = some false) (ho : o.op = .load t x) (hx : ev s x = some (.iface T (.pointer (some ⟨b, off, none⟩)))) (he : En.lk s.σ e = some (.deep F)) (hF : ∀ p w, F p w → w.cell? ⟨b, off, none⟩ = some (.int .i64 u)) :
    AOk Tryz.prog s o ⟨rq s [x], [(e, .deep F)]⟩ ⟨.int .i64 u, [], []⟩ := by
  refine .quiet fun B => ⟨Does.value (fun al _ => NB.flat rfl) fun ρ a w hm => ?_, ⟨fun t v h => rq_in h, fun n b' h => ?_⟩, rfl, rfl⟩
  · have hax := ev_eval hm (x := x) (by simp) hx
    have hxr : rV ρ (.iface T (.pointer (some ⟨b, off, none⟩))) = .pointer (some ⟨b, off, none⟩) := rfl
    rw [hxr] at hax
    have hc := hF _ w ((hm.σ e _ List.mem_cons_self).2 w (Nat.le_refl _) fun _ _ => rfl)
    rw [rV_flat ρ rfl]
    unfold execOp
    simp only [ho, hax, Instr.loadAt, Instr.sureAddr, Sem.run_bind, Sem.run_pure, Result.andThen_ok]
    rw [run_loadOne ha hc]; rfl
  · simp at h; obtain ⟨rfl, rfl⟩ := h; exact he
theorem okr_ldR {e t : Nat} {F : Pl → World → Prop} {x : Operand} {T : TypeId} {b off : Nat} {i : TypeInfo} (vs us : List Value) (hvu : ∀ ρ, rL ρ vs = us) (ha : aggB Tryz.prog t = some true) (hi : Tryz.prog.info? t = some i) (hl : i.size = us.length) (ho : o.op = .load t x) (hx : ev s x = some (.iface T (.pointer (some ⟨b, off, none⟩)))) (he : En.lk s.σ e = some (.deep F)) (hF : ∀ p w, F p w → ∀ j u, us[j]? = some u → w.cell? ⟨b, off + j, none⟩ = some u) :
    AOk Tryz.prog s o ⟨rq s [x], [(e, .deep F)]⟩ ⟨.agg vs.toArray, [], []⟩ := by
  have hv : ∀ ρ, rV ρ (.agg vs.toArray) = .agg us.toArray := fun ρ => by
    show Value.agg (rL ρ vs).toArray = _
    rw [hvu]
  refine .quiet fun B => ⟨Does.value (fun al _ ρ ρ' _ => by rw [hv, hv]) fun ρ a w hm => ?_, ⟨fun t v h => rq_in h, fun n b' h => ?_⟩, rfl, rfl⟩
  · have hax := ev_eval hm (x := x) (by simp) hx
    have hxr : rV ρ (.iface T (.pointer (some ⟨b, off, none⟩))) = .pointer (some ⟨b, off, none⟩) := rfl
    rw [hxr] at hax
    have hc := hF _ w ((hm.σ e _ List.mem_cons_self).2 w (Nat.le_refl _) fun _ _ => rfl)
    rw [hv]
    unfold execOp
    simp only [ho, hax, Instr.loadAt, Instr.sureAddr, Sem.run_bind, Sem.run_pure, Result.andThen_ok]
    rw [run_loadRow (cs := us) ha hi hl hc]; rfl
  · simp at h; obtain ⟨rfl, rfl⟩ := h; exact he
end
def sureI (y : Eb) (r : List Eb) (i : Nat) : List Int := (r.take i).foldl (fun a x => mg a x.vs) (if y.lv = 0 then y.vs else [y.last])
theorem sureI_succ {y x : Eb} {r : List Eb} {i : Nat} (h : r[i]? = some x) : sureI y r (i + 1) = mg (sureI y r i) x.vs := by
  unfold sureI; rw [List.take_add_one, h, Option.toList_some, List.foldl_append]; rfl
theorem sureI_all {y : Eb} {r : List Eb} {i : Nat} (h : r.length ≤ i) : sureI y r i = sureE (y :: r) := by
  unfold sureI; rw [List.take_of_length_le h]; rfl
theorem sureI_ok {y : Eb} {r : List Eb} (hy : EbOK y) (hr : ∀ e ∈ r, EbOK e) (ht : totE (y :: r) ≤ 900) (i : Nat) : Asc (sureI y r i) ∧ 0 < (sureI y r i).length ∧ (sureI y r i).length ≤ 900 := by
  have hi : ∀ e ∈ r.take i, EbOK e := fun e he => hr e (List.mem_of_mem_take he)
  have h1 := totE_take_le r i
  rw [totE] at ht
  have hp := Nat.two_pow_pos y.lv
  unfold sureI
  by_cases h0 : y.lv = 0
  · rw [if_pos h0]
    refine ⟨sure_asc _ _ hy.asc hi, ?_, ?_⟩ <;> rw [sure_len _ _ hi, hy.len] <;> omega
  · rw [if_neg h0]
    refine ⟨sure_asc _ _ (by simp [Asc]) hi, ?_, ?_⟩ <;> rw [sure_len _ _ hi] <;> simp <;> omega
def SureX (B0 : Nat) (l : List Bk) (S : List Int) (X : Value) (st : St) : Prop :=
  (X = .slice none 0 0 ∧ S = []) ∨ (∃ b ∈ l, X = .iface 0 (.slice b.A b.e.vs.length b.c) ∧ S = b.e.vs) ∨ (∃ q, X = .slice (some ⟨q, 0, none⟩) S.length 0 ∧ En.lk st.σ q = some (.deep (ownF B0 S)))
set_option maxRecDepth 100000 in
set_option maxHeartbeats 2000000 in
theorem qs_sure (l : List Bk) (n k : Nat) (b : Int) (hn : n ≤ 900) (hd : DB (l.map Bk.e) k b) (w : World) (A : Option Addr) (c : Nat) (h : BL w A n c l) :
    Calls Tryz.prog 198 #[.slice A n c] w (fun e w' => ∃ A' c', e = .returned (.tuple #[.agg #[.int .i64 (((sureE (l.map Bk.e)).length : Nat)), .slice A' (sureE (l.map Bk.e)).length c'], .int .i64 0]) ∧ SL w' A' (sureE (l.map Bk.e)).length c' 3 (enL 0 (sureE (l.map Bk.e))) ∧ (∀ g, blkOf A' (sureE (l.map Bk.e)).length g → w.heap.size ≤ g ∨ fpE l g) ∧ Below w.heap.size w w') := by
  have hl := h.len
  obtain ⟨i273t, _, i273, z273', _⟩ := info273x
  have z273 : ∀ x : Bk, i273t.size = (bkR x).length := fun x => z273'
  obtain ⟨i271t, i271, z271⟩ := info271x
  have H := fun_bq tblOK mixedP Tryz.func198 rfl h [.iface 0 (.slice A n c)] [.slice A n c] rfl 72 [(0, .iface 0 (.slice A n c))] rfl rfl (by kernel_rfl) rfl rfl (fun B0 u st => ∃ X, u = .tuple #[.agg #[.int .i64 (((sureE (l.map Bk.e)).length : Nat)), X], .int .i64 0] ∧ SureX B0 l (sureE (l.map Bk.e)) X st ∧ En.lk st.σ 0 = some (.deep (fullF B0 A n c l))) (fun B0 => by
    repeat' (first | refine AR.auto rfl ?_ | refine AR.man (okw_len rfl rfl rfl rfl rfl) rfl rfl rfl ?_ | refine AR.nil ?_ | refine KF.mk ?_ | refine KT.mk (by kernel_rfl) ?_ | refine SQ.normal ?_ | refine AC.seq ?_ | refine AC.regF ?_ | refine AC.regT ?_ | refine AC.condT rfl ?_ | refine AC.condF rfl ?_ | refine AC.block ?_ | refine BQ.normal ?_ | refine BQ.ret ?_ | refine BQ.here ?_ | refine BQ.there rfl ?_ | refine SQ.ret ?_ | refine SQ.exit ?_ | refine AC.ret ?_ | refine AC.exit ?_ | refine AC.skip ?_ | (refine AR.split rfl (fun h => ?_) (fun h => ?_) <;> rw [h]) | (refine AC.cond rfl (fun h => ?_) (fun h => ?_) <;> rw [h]) | refine FQ.ret rfl rfl ?_ | refine FQ.normal rfl rfl ?_)
    refine AC.loop (fun m st => ∃ i, m = n - i ∧ i ≤ n ∧ st = ⟨[(13, .int .i64 (i : Nat)), (12, .int .i64 (n : Nat)), (11, .iface 0 (.slice A n c)), (0, .iface 0 (.slice A n c)), (2, .pointer (some ⟨1, 0, none⟩)), (3, .int .i64 0)], [(1, .row 271 [.int .i64 0, .slice none 0 0]), (0, .deep (fullF B0 A n c l))], [1, 0], 72⟩) n _ ?_ ⟨0, rfl, Nat.zero_le _, rfl⟩ ?_
    · exact Ren.mv (tabF []) rfl (fun k hk => by match k, hk with | 0, _ => exact ⟨rfl, rfl⟩) ⟨⟨rfl, rfl⟩, ⟨rfl, rfl⟩, ⟨rfl, rfl⟩, ⟨rfl, rfl⟩, ⟨rfl, rfl⟩, ⟨rfl, rfl⟩, trivial⟩ ⟨⟨rfl, rfl, rfl⟩, ⟨rfl, rfl, rfl⟩, trivial⟩ rfl
    rintro m st ⟨i, rfl, hin, rfl⟩
    by_cases hlt : i < n
    · have z0 : decide ((i : Int) < (n : Int)) = true := by simp only [decide_eq_true_eq]; omega
      have w4 : IntKind.i64.wrap ((i : Int) + 1) = ((i + 1 : Nat) : Int) := by rw [IntWalk.i64_in _ (by omega)]; rfl
      obtain ⟨x, hx⟩ : ∃ x, l[i]? = some x := ⟨l[i]'(by omega), List.getElem?_eq_getElem (by omega)⟩
      have hxl := List.mem_of_getElem? hx
      have hxe : x.e ∈ l.map Bk.e := List.mem_map_of_mem hxl
      have ho := hd.ok _ hxe
      have hlv := (hd.vb.rng _ hxe).2
      have hN : x.e.vs.length ≤ 900 := by rw [ho.len]; exact Nat.le_trans (pow_le_tot hxe) hd.tot
      have hN0 : 0 < x.e.vs.length := by rw [ho.len]; exact Nat.two_pow_pos _
      have z1 : decide (((x.e.lv : Nat) : Int) < 0) = false := by simp only [decide_eq_false_iff_not]; omega
      have z2 : decide (((x.e.lv : Nat) : Int) > 30) = false := by simp only [decide_eq_false_iff_not]; omega
      have z3 : ((0 : Int) != 0) = false := rfl
      obtain ⟨b, o, hA, _, _⟩ := h.sl.sl.2 (by omega)
      repeat' (first | rw [z0] | rw [w4] | rw [z3] | rw [z1] | rw [z2] | refine AR.auto rfl ?_ | refine AR.man (okw_len rfl rfl rfl rfl rfl) rfl rfl rfl ?_ | refine AR.man (okw_idx (i := i) hA rfl rfl rfl (by omega)) rfl rfl rfl ?_ | refine AR.man (okr_ldR (e := 0) (F := (fullF B0 A n c l)) (bkQ x) (bkR x) (fun ρ => rfl) agg273 i273 (z273 x) rfl rfl rfl (fun p w' hp j u hu => sl_cell (hp.1.sl) hA (by omega) hx hu)) rfl rfl rfl ?_ | refine AR.man (AOk.callV (σ := [(0, .deep (fullF B0 A n c l))]) (vs := [.agg #[.int .i64 ((x.e.vs.length : Nat)), .iface 0 (.slice x.A x.e.vs.length x.c)]]) (v := .int .i64 0) (fun B ρ w hB hσ => qf_valid x.e.vs _ rfl (by omega) ho.asc w _ _ ((box_deep_at (hσ 0 _ List.mem_cons_self)).1.es x hxl)) ent213 rfl rfl rfl (fun n b h => by simp at h; obtain ⟨rfl, rfl⟩ := h; rfl) rfl) rfl rfl rfl ?_ | refine AR.nil ?_ | refine KF.mk ?_ | refine KT.mk (by kernel_rfl) ?_ | refine SQ.normal ?_ | refine AC.seq ?_ | refine AC.regF ?_ | refine AC.regT ?_ | refine AC.condT rfl ?_ | refine AC.condF rfl ?_ | refine AC.block ?_ | refine BQ.normal ?_ | refine BQ.ret ?_ | refine BQ.here ?_ | refine BQ.there rfl ?_ | refine SQ.ret ?_ | refine SQ.exit ?_ | refine AC.ret ?_ | refine AC.exit ?_ | refine AC.skip ?_ | (refine AR.split rfl (fun h => ?_) (fun h => ?_) <;> rw [h]) | (refine AC.cond rfl (fun h => ?_) (fun h => ?_) <;> rw [h]) | refine FQ.ret rfl rfl ?_ | refine FQ.normal rfl rfl ?_)
      refine ⟨n - (i + 1), _, by omega, ?_, i + 1, rfl, by omega, rfl⟩
      exact Ren.mv (tabF []) rfl (fun k hk => by match k, hk with | 0, _ => exact ⟨rfl, rfl⟩) ⟨⟨rfl, rfl⟩, ⟨rfl, rfl⟩, ⟨rfl, rfl⟩, ⟨rfl, rfl⟩, ⟨rfl, rfl⟩, ⟨rfl, rfl⟩, trivial⟩ ⟨⟨rfl, rfl, rfl⟩, ⟨rfl, rfl, rfl⟩, trivial⟩ rfl
    obtain rfl : n = i := by omega
    have z0 : decide ((n : Int) < (n : Int)) = false := by simp
    by_cases hn0 : n = 0
    · subst hn0
      have z1 : (((0 : Nat) : Int) == 0) = true := rfl
      have hl0 : l = [] := List.length_eq_zero_iff.1 hl
      repeat' (first | rw [z0] | rw [z1] | refine AR.auto rfl ?_ | refine AR.man (okw_len rfl rfl rfl rfl rfl) rfl rfl rfl ?_ | refine AR.nil ?_ | refine KF.mk ?_ | refine KT.mk (by kernel_rfl) ?_ | refine SQ.normal ?_ | refine AC.seq ?_ | refine AC.regF ?_ | refine AC.regT ?_ | refine AC.condT rfl ?_ | refine AC.condF rfl ?_ | refine AC.block ?_ | refine BQ.normal ?_ | refine BQ.ret ?_ | refine BQ.here ?_ | refine BQ.there rfl ?_ | refine SQ.ret ?_ | refine SQ.exit ?_ | refine AC.ret ?_ | refine AC.exit ?_ | refine AC.skip ?_ | (refine AR.split rfl (fun h => ?_) (fun h => ?_) <;> rw [h]) | (refine AC.cond rfl (fun h => ?_) (fun h => ?_) <;> rw [h]) | refine FQ.ret rfl rfl ?_ | refine FQ.normal rfl rfl ?_)
      all_goals exact ⟨_, by rw [hl0]; rfl, .inl ⟨rfl, by rw [hl0]; rfl⟩, rfl⟩
    have z1 : ((n : Int) == 0) = false := by rw [beq_eq_false_iff_ne]; omega
    obtain ⟨b, o, hA, _, _⟩ := h.sl.sl.2 (by omega)
    obtain ⟨y, hy⟩ : ∃ y, l[0]? = some y := ⟨l[0]'(by omega), List.getElem?_eq_getElem (by omega)⟩
    have hyl := List.mem_of_getElem? hy
    have hye : y.e ∈ l.map Bk.e := List.mem_map_of_mem hyl
    have hoy := hd.ok _ hye
    have hlc : l = y :: l.drop 1 := by
      obtain ⟨h1, h2⟩ := List.getElem?_eq_some_iff.1 hy
      have := List.drop_eq_getElem_cons h1
      rw [h2] at this; exact this
    obtain ⟨r, hr⟩ : ∃ r, (l.drop 1).map Bk.e = r := ⟨_, rfl⟩
    have hmap : l.map Bk.e = y.e :: r := by
      conv => lhs; rw [hlc]
      rw [List.map_cons, hr]
    have hrl : r.length = n - 1 := by rw [← hr, List.length_map, List.length_drop, hl]
    have hSok := sureI_ok (y := y.e) (r := r) hoy (fun e he => hd.ok e (by rw [hmap]; exact List.mem_cons_of_mem _ he)) (by rw [← hmap]; exact hd.tot)
    have hSall : sureE (l.map Bk.e) = sureI y.e r (n - 1) := by rw [hmap, sureI_all (by omega)]
    rw [hSall]
    obtain ⟨A', c', hcut, hS2⟩ := h.sl.cut (by omega)
    have round : ∀ (i : Nat), i < n - 1 → ∃ (x : Bk) (b' o' : Nat), A' = some ⟨b', o', none⟩ ∧ (l.drop 1)[i]? = some x ∧ x ∈ l ∧ sureI y.e r (i + 1) = mg (sureI y.e r i) x.e.vs := fun i hi => by
      have hx : (l.drop 1)[i]? = some ((l.drop 1)[i]'(by rw [List.length_drop]; omega)) := List.getElem?_eq_getElem (by rw [List.length_drop]; omega)
      obtain ⟨b', o', hA', _, _⟩ := (hS2 w h.sl).sl.2 (by omega)
      exact ⟨_, b', o', hA', hx, List.mem_of_mem_drop (List.mem_of_getElem? hx), sureI_succ (by rw [← hr, List.getElem?_map, hx]; rfl)⟩
    have e10 : IntKind.i64.wrap ((n : Int) - 1) = ((n - 1 : Nat) : Int) := by rw [IntWalk.i64_in _ (by omega)]; omega
    have hcy := hS2
    repeat' (first | rw [z0] | rw [z1] | refine AR.auto rfl ?_ | refine AR.man (okw_len rfl rfl rfl rfl rfl) rfl rfl rfl ?_ | refine AR.man (okw_idx (i := 0) hA rfl rfl rfl (by omega)) rfl rfl rfl ?_ | refine AR.man (okw_fldG (f := 1) (fo := 1) (z := 1) rfl (by decide) rfl rfl) rfl rfl rfl ?_ | refine AR.man (okw_fldG (f := 2) (fo := 2) (z := 1) rfl (by decide) rfl rfl) rfl rfl rfl ?_ | refine AR.man (okw_fldG (f := 3) (fo := 3) (z := 2) rfl (by decide) rfl rfl) rfl rfl rfl ?_ | refine AR.man (okr_ldG (e := 0) (F := (fullF B0 A n c l)) (u := y.e.last) agg2w rfl rfl rfl (fun p w' hp => sl_cell hp.1.sl hA (by omega) hy (i := 1) rfl)) rfl rfl rfl ?_ | refine AR.man (okr_ldG (e := 0) (F := (fullF B0 A n c l)) (u := ((y.e.lv : Nat) : Int)) agg3w rfl rfl rfl (fun p w' hp => sl_cell hp.1.sl hA (by omega) hy (i := 2) rfl)) rfl rfl rfl ?_ | refine AR.man (okr_ldR (e := 0) (F := (fullF B0 A n c l)) [.int .i64 ((y.e.vs.length : Nat)), .iface 0 (.slice y.A y.e.vs.length y.c)] [.int .i64 ((y.e.vs.length : Nat)), .slice y.A y.e.vs.length y.c] (fun ρ => rfl) agg271 i271 z271 rfl rfl rfl (fun p w' hp j u hu => by rw [show o + 0 * 5 + 3 + j = o + 0 * 5 + (3 + j) from by omega]; exact sl_cell hp.1.sl hA (by omega) hy (i := 3 + j) (by match j, hu with | 0, hu => exact hu | 1, hu => exact hu))) rfl rfl rfl ?_ | refine AR.man (AOk.callOD (fun s => .agg #[.int .i64 1, s]) 2 1 B0 [y.e.last] (σ := [(0, .deep (fullF B0 A n c l))]) (vs := [.int .i64 y.e.last]) rfl (fun B ρ w hB hσ => ⟨(box_deep_at (hσ 0 _ List.mem_cons_self)).2.2, qg_single y.e.last w⟩) ent184 rfl rfl rfl (fun n b h => by simp at h; obtain ⟨rfl, rfl⟩ := h; rfl) rfl (fun _ => rfl) rfl) rfl rfl rfl ?_ | refine AR.nil ?_ | refine KF.mk ?_ | refine KT.mk (by kernel_rfl) ?_ | refine SQ.normal ?_ | refine AC.seqS (a := .seq (.region 10 _ _) _) (fun st => (st = ⟨[(0, .iface 0 (.slice A n c)), (6, .pointer (some ⟨3, 0, none⟩)), (2, .pointer (some ⟨1, 0, none⟩)), (3, .int .i64 0)], [(3, .row 271 [.int .i64 ((y.e.vs.length : Nat)), .iface 0 (.slice y.A y.e.vs.length y.c)]), (1, .row 271 [.int .i64 0, .slice none 0 0]), (0, .deep (fullF B0 A n c l))], [3, 2, 1, 0], 72⟩ ∧ y.e.lv = 0) ∨ (st = ⟨[(0, .iface 0 (.slice A n c)), (6, .pointer (some ⟨3, 0, none⟩)), (2, .pointer (some ⟨1, 0, none⟩)), (3, .int .i64 0)], [(3, .row 271 [.int .i64 1, .slice (some ⟨2, 0, none⟩) 1 0]), (2, .deep (ownF B0 [y.e.last])), (1, .row 271 [.int .i64 0, .slice none 0 0]), (0, .deep (fullF B0 A n c l))], [3, 2, 1, 0], 72⟩ ∧ y.e.lv ≠ 0)) ?_ ?_ | refine AC.seq ?_ | refine AC.regF ?_ | refine AC.regT ?_ | refine AC.condT rfl ?_ | refine AC.condF rfl ?_ | refine AC.block ?_ | refine BQ.normal ?_ | refine BQ.ret ?_ | refine BQ.here ?_ | refine BQ.there rfl ?_ | refine SQ.ret ?_ | refine SQ.exit ?_ | refine AC.ret ?_ | refine AC.exit ?_ | refine AC.skip ?_ | (refine AR.split rfl (fun h => ?_) (fun h => ?_) <;> rw [h]) | (refine AC.cond rfl (fun h => ?_) (fun h => ?_) <;> rw [h]) | refine FQ.ret rfl rfl ?_ | refine FQ.normal rfl rfl ?_)
    · exact RenS.of (s' := ⟨[(0, .iface 0 (.slice A n c)), (6, .pointer (some ⟨3, 0, none⟩)), (2, .pointer (some ⟨1, 0, none⟩)), (3, .int .i64 0)], [(3, .row 271 [.int .i64 ((y.e.vs.length : Nat)), .iface 0 (.slice y.A y.e.vs.length y.c)]), (1, .row 271 [.int .i64 0, .slice none 0 0]), (0, .deep (fullF B0 A n c l))], [3, 2, 1, 0], 72⟩) (Ren.mv (tabF []) rfl (fun k hk => by match k, hk with | 0, _ => exact ⟨rfl, rfl⟩) ⟨⟨rfl, rfl⟩, ⟨rfl, rfl⟩, ⟨rfl, rfl⟩, ⟨rfl, rfl⟩, trivial⟩ ⟨⟨rfl, rfl, rfl⟩, ⟨rfl, rfl, rfl⟩, ⟨rfl, rfl, rfl⟩, trivial⟩ rfl) (.inl ⟨rfl, by rename_i h; simpa using h⟩)
    · exact RenS.of (s' := ⟨[(0, .iface 0 (.slice A n c)), (6, .pointer (some ⟨3, 0, none⟩)), (2, .pointer (some ⟨1, 0, none⟩)), (3, .int .i64 0)], [(3, .row 271 [.int .i64 1, .slice (some ⟨2, 0, none⟩) 1 0]), (2, .deep (ownF B0 [y.e.last])), (1, .row 271 [.int .i64 0, .slice none 0 0]), (0, .deep (fullF B0 A n c l))], [3, 2, 1, 0], 72⟩) (Ren.mv (tabF []) rfl (fun k hk => by match k, hk with | 0, _ => exact ⟨rfl, rfl⟩) ⟨⟨rfl, rfl⟩, ⟨rfl, rfl⟩, ⟨rfl, rfl⟩, ⟨rfl, rfl⟩, trivial⟩ ⟨⟨rfl, rfl, rfl⟩, ⟨rfl, rfl, rfl⟩, ⟨rfl, rfl, rfl⟩, ⟨rfl, rfl, rfl⟩, trivial⟩ rfl) (.inr ⟨rfl, by rename_i h; simpa using h⟩)
    rintro st hst
    have hS0 : y.e.lv = 0 → sureI y.e r 0 = y.e.vs := fun h0 => by unfold sureI; rw [List.take_zero, if_pos h0]; rfl
    have hS0' : y.e.lv ≠ 0 → sureI y.e r 0 = [y.e.last] := fun h0 => by unfold sureI; rw [List.take_zero, if_neg h0]; rfl
    rcases hst with ⟨rfl, hy0⟩ | ⟨rfl, hy0⟩
    · have hstart := hS0 hy0
      repeat' (first | rw [hcut] | refine AR.auto rfl ?_ | refine AR.man (okw_cut rfl rfl (by omega)) rfl rfl rfl ?_ | refine AR.man (okw_len rfl rfl rfl rfl rfl) rfl rfl rfl ?_ | refine AR.nil ?_ | refine KF.mk ?_ | refine KT.mk (by kernel_rfl) ?_ | refine SQ.normal ?_ | refine AC.seq ?_ | refine AC.regF ?_ | refine AC.regT ?_ | refine AC.condT rfl ?_ | refine AC.condF rfl ?_ | refine AC.block ?_ | refine BQ.normal ?_ | refine BQ.ret ?_ | refine BQ.here ?_ | refine BQ.there rfl ?_ | refine SQ.ret ?_ | refine SQ.exit ?_ | refine AC.ret ?_ | refine AC.exit ?_ | refine AC.skip ?_ | (refine AR.split rfl (fun h => ?_) (fun h => ?_) <;> rw [h]) | (refine AC.cond rfl (fun h => ?_) (fun h => ?_) <;> rw [h]) | refine FQ.ret rfl rfl ?_ | refine FQ.normal rfl rfl ?_)
      refine AC.loop (fun m st => ∃ i, m = n - 1 - i ∧ i ≤ n - 1 ∧ ((i = 0 ∧ st = ⟨[(54, .int .i64 (0 : Nat)), (53, .int .i64 (n - 1 : Nat)), (52, .iface 0 (.slice A' (n - 1) c')), (6, .pointer (some ⟨3, 0, none⟩)), (2, .pointer (some ⟨1, 0, none⟩)), (3, .int .i64 0)], [(3, .row 271 [.int .i64 ((y.e.vs.length : Nat)), .iface 0 (.slice y.A y.e.vs.length y.c)]), (1, .row 271 [.int .i64 0, .slice none 0 0]), (0, .deep (fullF B0 A n c l))], [3, 2, 1, 0], 72⟩) ∨ st = ⟨[(54, .int .i64 (i : Nat)), (53, .int .i64 (n - 1 : Nat)), (52, .iface 0 (.slice A' (n - 1) c')), (6, .pointer (some ⟨3, 0, none⟩)), (2, .pointer (some ⟨1, 0, none⟩)), (3, .int .i64 0)], [(3, .row 271 [.int .i64 (((sureI y.e r i).length : Nat)), .slice (some ⟨2, 0, none⟩) (sureI y.e r i).length 0]), (2, .deep (ownF B0 (sureI y.e r i))), (1, .row 271 [.int .i64 0, .slice none 0 0]), (0, .deep (fullF B0 A n c l))], [3, 2, 1, 0], 72⟩)) (n - 1) _ ?_ ⟨0, rfl, Nat.zero_le _, .inl ⟨rfl, rfl⟩⟩ ?_
      · exact Ren.mv (tabF []) rfl (fun k hk => by match k, hk with | 0, _ => exact ⟨rfl, rfl⟩) ⟨⟨rfl, rfl⟩, ⟨rfl, rfl⟩, ⟨rfl, rfl⟩, ⟨rfl, rfl⟩, ⟨rfl, rfl⟩, ⟨rfl, rfl⟩, trivial⟩ ⟨⟨rfl, rfl, rfl⟩, ⟨rfl, rfl, rfl⟩, ⟨rfl, rfl, rfl⟩, trivial⟩ rfl
      rintro m st ⟨i, rfl, hin, ⟨rfl, rfl⟩ | rfl⟩
      · by_cases hlt : 0 < n - 1
        · obtain ⟨x, b', o', hA', hx, hxl, hsu⟩ := round 0 hlt
          have z0 : decide (((0 : Nat) : Int) < ((n - 1 : Nat) : Int)) = true := by simp only [decide_eq_true_eq]; omega
          have w4 : IntKind.i64.wrap (((0 : Nat) : Int) + 1) = ((0 + 1 : Nat) : Int) := by rw [IntWalk.i64_in _ (by omega)]; rfl
          have z3 : ((0 : Int) != 0) = false := rfl
          have hxe : x.e ∈ l.map Bk.e := List.mem_map_of_mem hxl
          have ho := hd.ok _ hxe
          have hN : x.e.vs.length ≤ 900 := by rw [ho.len]; exact Nat.le_trans (pow_le_tot hxe) hd.tot
          have hN0 : 0 < x.e.vs.length := by rw [ho.len]; exact Nat.two_pow_pos _
          obtain ⟨hSa, hS0, hS9⟩ := hSok 0
          rw [hstart] at hsu hSa hS0 hS9
          repeat' (first | rw [z0] | rw [w4] | rw [z3] | refine AR.auto rfl ?_ | refine AR.man (okw_idx (i := 0) hA' rfl rfl rfl (by omega)) rfl rfl rfl ?_ | refine AR.man (okr_ldR (e := 0) (F := (fullF B0 A n c l)) (bkQ x) (bkR x) (fun ρ => rfl) agg273 i273 (z273 x) rfl rfl rfl (fun p w' hp j u hu => sl_cell (hS2 w' hp.1.sl) hA' (by omega) hx hu)) rfl rfl rfl ?_ | refine AR.man (AOk.callOD (fun s => .tuple #[.agg #[.int .i64 (((mg y.e.vs x.e.vs).length : Nat)), s], .int .i64 0]) 5 (mg y.e.vs x.e.vs).length B0 (mg y.e.vs x.e.vs) (σ := [(0, .deep (fullF B0 A n c l))]) (vs := [.agg #[.int .i64 ((y.e.vs.length : Nat)), .iface 0 (.slice y.A y.e.vs.length y.c)], .agg #[.int .i64 ((x.e.vs.length : Nat)), .iface 0 (.slice x.A x.e.vs.length x.c)]]) rfl (fun B ρ w hB hσ => ⟨(box_deep_at (hσ 0 _ List.mem_cons_self)).2.2, by rw [mg_len]; exact qg_merge y.e.vs x.e.vs _ _ rfl rfl hS9 hN hS0 hN0 hSa ho.asc w _ _ _ _ ((box_deep_at (hσ 0 _ List.mem_cons_self)).1.es y hyl) ((box_deep_at (hσ 0 _ List.mem_cons_self)).1.es x hxl)⟩) ent185 rfl rfl rfl (fun n b h => by simp at h; obtain ⟨rfl, rfl⟩ := h <;> rfl) rfl (fun _ => rfl) rfl) rfl rfl rfl ?_ | refine AR.nil ?_ | refine KF.mk ?_ | refine KT.mk (by kernel_rfl) ?_ | refine SQ.normal ?_ | refine AC.seq ?_ | refine AC.regF ?_ | refine AC.regT ?_ | refine AC.condT rfl ?_ | refine AC.condF rfl ?_ | refine AC.block ?_ | refine BQ.normal ?_ | refine BQ.ret ?_ | refine BQ.here ?_ | refine BQ.there rfl ?_ | refine SQ.ret ?_ | refine SQ.exit ?_ | refine AC.ret ?_ | refine AC.exit ?_ | refine AC.skip ?_ | (refine AR.split rfl (fun h => ?_) (fun h => ?_) <;> rw [h]) | (refine AC.cond rfl (fun h => ?_) (fun h => ?_) <;> rw [h]) | refine FQ.ret rfl rfl ?_ | refine FQ.normal rfl rfl ?_)
          refine ⟨n - 1 - (0 + 1), _, by omega, ?_, 0 + 1, rfl, by omega, .inr rfl⟩
          rw [hsu]
          exact Ren.mv (tabF [(2, 5)]) rfl (fun k hk => by match k, hk with | 0, _ => exact ⟨rfl, rfl⟩) ⟨⟨rfl, rfl⟩, ⟨rfl, rfl⟩, ⟨rfl, rfl⟩, ⟨rfl, rfl⟩, ⟨rfl, rfl⟩, ⟨rfl, rfl⟩, trivial⟩ ⟨⟨rfl, rfl, rfl⟩, ⟨rfl, rfl, rfl⟩, ⟨rfl, rfl, rfl⟩, ⟨rfl, rfl, rfl⟩, trivial⟩ rfl
        · have hn1 : n - 1 = 0 := by omega
          have z0 : decide (((0 : Nat) : Int) < ((n - 1 : Nat) : Int)) = false := by simp only [decide_eq_false_iff_not]; omega
          repeat' (first | rw [z0] | refine AR.auto rfl ?_ | refine AR.nil ?_ | refine KF.mk ?_ | refine KT.mk (by kernel_rfl) ?_ | refine SQ.normal ?_ | refine AC.seq ?_ | refine AC.regF ?_ | refine AC.regT ?_ | refine AC.condT rfl ?_ | refine AC.condF rfl ?_ | refine AC.block ?_ | refine BQ.normal ?_ | refine BQ.ret ?_ | refine BQ.here ?_ | refine BQ.there rfl ?_ | refine SQ.ret ?_ | refine SQ.exit ?_ | refine AC.ret ?_ | refine AC.exit ?_ | refine AC.skip ?_ | (refine AR.split rfl (fun h => ?_) (fun h => ?_) <;> rw [h]) | (refine AC.cond rfl (fun h => ?_) (fun h => ?_) <;> rw [h]) | refine FQ.ret rfl rfl ?_ | refine FQ.normal rfl rfl ?_)
          all_goals exact ⟨.iface 0 (.slice y.A y.e.vs.length y.c), by rw [hn1, hstart]; rfl, .inr (.inl ⟨y, hyl, rfl, by rw [hn1, hstart]⟩), rfl⟩
      by_cases hlt : i < n - 1
      · obtain ⟨x, b', o', hA', hx, hxl, hsu⟩ := round i hlt
        have z0 : decide ((i : Int) < ((n - 1 : Nat) : Int)) = true := by simp only [decide_eq_true_eq]; omega
        have w4 : IntKind.i64.wrap ((i : Int) + 1) = ((i + 1 : Nat) : Int) := by rw [IntWalk.i64_in _ (by omega)]; rfl
        have z3 : ((0 : Int) != 0) = false := rfl
        have hxe : x.e ∈ l.map Bk.e := List.mem_map_of_mem hxl
        have ho := hd.ok _ hxe
        have hN : x.e.vs.length ≤ 900 := by rw [ho.len]; exact Nat.le_trans (pow_le_tot hxe) hd.tot
        have hN0 : 0 < x.e.vs.length := by rw [ho.len]; exact Nat.two_pow_pos _
        obtain ⟨hSa, hS0, hS9⟩ := hSok i
        obtain ⟨Sx, hSx⟩ : ∃ Sx, sureI y.e r i = Sx := ⟨_, rfl⟩
        rw [hSx] at hsu hSa hS0 hS9 ⊢
        repeat' (first | rw [z0] | rw [w4] | rw [z3] | refine AR.auto rfl ?_ | refine AR.man (okw_idx (i := i) hA' rfl rfl rfl (by omega)) rfl rfl rfl ?_ | refine AR.man (okr_ldR (e := 0) (F := (fullF B0 A n c l)) (bkQ x) (bkR x) (fun ρ => rfl) agg273 i273 (z273 x) rfl rfl rfl (fun p w' hp j u hu => sl_cell (hS2 w' hp.1.sl) hA' (by omega) hx hu)) rfl rfl rfl ?_ | refine AR.man (AOk.callOD (fun s => .tuple #[.agg #[.int .i64 (((mg Sx x.e.vs).length : Nat)), s], .int .i64 0]) 5 (mg Sx x.e.vs).length B0 (mg Sx x.e.vs) (σ := [(2, .deep (ownF B0 Sx)), (0, .deep (fullF B0 A n c l))]) (vs := [.agg #[.int .i64 ((Sx.length : Nat)), .slice (some ⟨2, 0, none⟩) Sx.length 0], .agg #[.int .i64 ((x.e.vs.length : Nat)), .iface 0 (.slice x.A x.e.vs.length x.c)]]) rfl (fun B ρ w hB hσ => ⟨(box_deep_at (hσ 0 _ (List.mem_cons_of_mem _ List.mem_cons_self))).2.2, by show Calls _ _ #[.agg #[_, rC ρ (.slice (some ⟨2, 0, none⟩) Sx.length 0)], _] _ _; rw [plAd_slice, mg_len]; exact qg_merge Sx x.e.vs _ _ rfl rfl hS9 hN hS0 hN0 hSa ho.asc w _ _ _ _ (box_deep_at (hσ 2 _ List.mem_cons_self)).1 ((box_deep_at (hσ 0 _ (List.mem_cons_of_mem _ List.mem_cons_self))).1.es x hxl)⟩) ent185 rfl rfl rfl (fun n b h => by simp at h; rcases h with ⟨rfl, rfl⟩ | ⟨rfl, rfl⟩ <;> rfl) rfl (fun _ => rfl) rfl) rfl rfl rfl ?_ | refine AR.nil ?_ | refine KF.mk ?_ | refine KT.mk (by kernel_rfl) ?_ | refine SQ.normal ?_ | refine AC.seq ?_ | refine AC.regF ?_ | refine AC.regT ?_ | refine AC.condT rfl ?_ | refine AC.condF rfl ?_ | refine AC.block ?_ | refine BQ.normal ?_ | refine BQ.ret ?_ | refine BQ.here ?_ | refine BQ.there rfl ?_ | refine SQ.ret ?_ | refine SQ.exit ?_ | refine AC.ret ?_ | refine AC.exit ?_ | refine AC.skip ?_ | (refine AR.split rfl (fun h => ?_) (fun h => ?_) <;> rw [h]) | (refine AC.cond rfl (fun h => ?_) (fun h => ?_) <;> rw [h]) | refine FQ.ret rfl rfl ?_ | refine FQ.normal rfl rfl ?_)
        refine ⟨n - 1 - (i + 1), _, by omega, ?_, i + 1, rfl, by omega, .inr rfl⟩
        rw [hsu]
        exact Ren.mv (tabF [(2, 5)]) rfl (fun k hk => by match k, hk with | 0, _ => exact ⟨rfl, rfl⟩) ⟨⟨rfl, rfl⟩, ⟨rfl, rfl⟩, ⟨rfl, rfl⟩, ⟨rfl, rfl⟩, ⟨rfl, rfl⟩, ⟨rfl, rfl⟩, trivial⟩ ⟨⟨rfl, rfl, rfl⟩, ⟨rfl, rfl, rfl⟩, ⟨rfl, rfl, rfl⟩, ⟨rfl, rfl, rfl⟩, trivial⟩ rfl
      · obtain rfl : i = n - 1 := by omega
        have z0 : decide (((n - 1 : Nat) : Int) < ((n - 1 : Nat) : Int)) = false := by simp
        repeat' (first | rw [z0] | refine AR.auto rfl ?_ | refine AR.nil ?_ | refine KF.mk ?_ | refine KT.mk (by kernel_rfl) ?_ | refine SQ.normal ?_ | refine AC.seq ?_ | refine AC.regF ?_ | refine AC.regT ?_ | refine AC.condT rfl ?_ | refine AC.condF rfl ?_ | refine AC.block ?_ | refine BQ.normal ?_ | refine BQ.ret ?_ | refine BQ.here ?_ | refine BQ.there rfl ?_ | refine SQ.ret ?_ | refine SQ.exit ?_ | refine AC.ret ?_ | refine AC.exit ?_ | refine AC.skip ?_ | (refine AR.split rfl (fun h => ?_) (fun h => ?_) <;> rw [h]) | (refine AC.cond rfl (fun h => ?_) (fun h => ?_) <;> rw [h]) | refine FQ.ret rfl rfl ?_ | refine FQ.normal rfl rfl ?_)
        all_goals exact ⟨_, rfl, .inr (.inr ⟨2, rfl, rfl⟩), rfl⟩
    · have hstart := hS0' hy0
      repeat' (first | rw [hcut] | refine AR.auto rfl ?_ | refine AR.man (okw_cut rfl rfl (by omega)) rfl rfl rfl ?_ | refine AR.man (okw_len rfl rfl rfl rfl rfl) rfl rfl rfl ?_ | refine AR.nil ?_ | refine KF.mk ?_ | refine KT.mk (by kernel_rfl) ?_ | refine SQ.normal ?_ | refine AC.seq ?_ | refine AC.regF ?_ | refine AC.regT ?_ | refine AC.condT rfl ?_ | refine AC.condF rfl ?_ | refine AC.block ?_ | refine BQ.normal ?_ | refine BQ.ret ?_ | refine BQ.here ?_ | refine BQ.there rfl ?_ | refine SQ.ret ?_ | refine SQ.exit ?_ | refine AC.ret ?_ | refine AC.exit ?_ | refine AC.skip ?_ | (refine AR.split rfl (fun h => ?_) (fun h => ?_) <;> rw [h]) | (refine AC.cond rfl (fun h => ?_) (fun h => ?_) <;> rw [h]) | refine FQ.ret rfl rfl ?_ | refine FQ.normal rfl rfl ?_)
      refine AC.loop (fun m st => ∃ i, m = n - 1 - i ∧ i ≤ n - 1 ∧ st = ⟨[(54, .int .i64 (i : Nat)), (53, .int .i64 (n - 1 : Nat)), (52, .iface 0 (.slice A' (n - 1) c')), (6, .pointer (some ⟨3, 0, none⟩)), (2, .pointer (some ⟨1, 0, none⟩)), (3, .int .i64 0)], [(3, .row 271 [.int .i64 (((sureI y.e r i).length : Nat)), .slice (some ⟨2, 0, none⟩) (sureI y.e r i).length 0]), (2, .deep (ownF B0 (sureI y.e r i))), (1, .row 271 [.int .i64 0, .slice none 0 0]), (0, .deep (fullF B0 A n c l))], [3, 2, 1, 0], 72⟩) (n - 1) _ ?_ ⟨0, rfl, Nat.zero_le _, rfl⟩ ?_
      · rw [hstart]
        exact Ren.mv (tabF []) rfl (fun k hk => by match k, hk with | 0, _ => exact ⟨rfl, rfl⟩) ⟨⟨rfl, rfl⟩, ⟨rfl, rfl⟩, ⟨rfl, rfl⟩, ⟨rfl, rfl⟩, ⟨rfl, rfl⟩, ⟨rfl, rfl⟩, trivial⟩ ⟨⟨rfl, rfl, rfl⟩, ⟨rfl, rfl, rfl⟩, ⟨rfl, rfl, rfl⟩, ⟨rfl, rfl, rfl⟩, trivial⟩ rfl
      rintro m st ⟨i, rfl, hin, rfl⟩
      by_cases hlt : i < n - 1
      · obtain ⟨x, b', o', hA', hx, hxl, hsu⟩ := round i hlt
        have z0 : decide ((i : Int) < ((n - 1 : Nat) : Int)) = true := by simp only [decide_eq_true_eq]; omega
        have w4 : IntKind.i64.wrap ((i : Int) + 1) = ((i + 1 : Nat) : Int) := by rw [IntWalk.i64_in _ (by omega)]; rfl
        have z3 : ((0 : Int) != 0) = false := rfl
        have hxe : x.e ∈ l.map Bk.e := List.mem_map_of_mem hxl
        have ho := hd.ok _ hxe
        have hN : x.e.vs.length ≤ 900 := by rw [ho.len]; exact Nat.le_trans (pow_le_tot hxe) hd.tot
        have hN0 : 0 < x.e.vs.length := by rw [ho.len]; exact Nat.two_pow_pos _
        obtain ⟨hSa, hS0, hS9⟩ := hSok i
        obtain ⟨Sx, hSx⟩ : ∃ Sx, sureI y.e r i = Sx := ⟨_, rfl⟩
        rw [hSx] at hsu hSa hS0 hS9 ⊢
        repeat' (first | rw [z0] | rw [w4] | rw [z3] | refine AR.auto rfl ?_ | refine AR.man (okw_idx (i := i) hA' rfl rfl rfl (by omega)) rfl rfl rfl ?_ | refine AR.man (okr_ldR (e := 0) (F := (fullF B0 A n c l)) (bkQ x) (bkR x) (fun ρ => rfl) agg273 i273 (z273 x) rfl rfl rfl (fun p w' hp j u hu => sl_cell (hS2 w' hp.1.sl) hA' (by omega) hx hu)) rfl rfl rfl ?_ | refine AR.man (AOk.callOD (fun s => .tuple #[.agg #[.int .i64 (((mg Sx x.e.vs).length : Nat)), s], .int .i64 0]) 5 (mg Sx x.e.vs).length B0 (mg Sx x.e.vs) (σ := [(2, .deep (ownF B0 Sx)), (0, .deep (fullF B0 A n c l))]) (vs := [.agg #[.int .i64 ((Sx.length : Nat)), .slice (some ⟨2, 0, none⟩) Sx.length 0], .agg #[.int .i64 ((x.e.vs.length : Nat)), .iface 0 (.slice x.A x.e.vs.length x.c)]]) rfl (fun B ρ w hB hσ => ⟨(box_deep_at (hσ 0 _ (List.mem_cons_of_mem _ List.mem_cons_self))).2.2, by show Calls _ _ #[.agg #[_, rC ρ (.slice (some ⟨2, 0, none⟩) Sx.length 0)], _] _ _; rw [plAd_slice, mg_len]; exact qg_merge Sx x.e.vs _ _ rfl rfl hS9 hN hS0 hN0 hSa ho.asc w _ _ _ _ (box_deep_at (hσ 2 _ List.mem_cons_self)).1 ((box_deep_at (hσ 0 _ (List.mem_cons_of_mem _ List.mem_cons_self))).1.es x hxl)⟩) ent185 rfl rfl rfl (fun n b h => by simp at h; rcases h with ⟨rfl, rfl⟩ | ⟨rfl, rfl⟩ <;> rfl) rfl (fun _ => rfl) rfl) rfl rfl rfl ?_ | refine AR.nil ?_ | refine KF.mk ?_ | refine KT.mk (by kernel_rfl) ?_ | refine SQ.normal ?_ | refine AC.seq ?_ | refine AC.regF ?_ | refine AC.regT ?_ | refine AC.condT rfl ?_ | refine AC.condF rfl ?_ | refine AC.block ?_ | refine BQ.normal ?_ | refine BQ.ret ?_ | refine BQ.here ?_ | refine BQ.there rfl ?_ | refine SQ.ret ?_ | refine SQ.exit ?_ | refine AC.ret ?_ | refine AC.exit ?_ | refine AC.skip ?_ | (refine AR.split rfl (fun h => ?_) (fun h => ?_) <;> rw [h]) | (refine AC.cond rfl (fun h => ?_) (fun h => ?_) <;> rw [h]) | refine FQ.ret rfl rfl ?_ | refine FQ.normal rfl rfl ?_)
        refine ⟨n - 1 - (i + 1), _, by omega, ?_, i + 1, rfl, by omega, rfl⟩
        rw [hsu]
        exact Ren.mv (tabF [(2, 5)]) rfl (fun k hk => by match k, hk with | 0, _ => exact ⟨rfl, rfl⟩) ⟨⟨rfl, rfl⟩, ⟨rfl, rfl⟩, ⟨rfl, rfl⟩, ⟨rfl, rfl⟩, ⟨rfl, rfl⟩, ⟨rfl, rfl⟩, trivial⟩ ⟨⟨rfl, rfl, rfl⟩, ⟨rfl, rfl, rfl⟩, ⟨rfl, rfl, rfl⟩, ⟨rfl, rfl, rfl⟩, trivial⟩ rfl
      · obtain rfl : i = n - 1 := by omega
        have z0 : decide (((n - 1 : Nat) : Int) < ((n - 1 : Nat) : Int)) = false := by simp
        repeat' (first | rw [z0] | refine AR.auto rfl ?_ | refine AR.nil ?_ | refine KF.mk ?_ | refine KT.mk (by kernel_rfl) ?_ | refine SQ.normal ?_ | refine AC.seq ?_ | refine AC.regF ?_ | refine AC.regT ?_ | refine AC.condT rfl ?_ | refine AC.condF rfl ?_ | refine AC.block ?_ | refine BQ.normal ?_ | refine BQ.ret ?_ | refine BQ.here ?_ | refine BQ.there rfl ?_ | refine SQ.ret ?_ | refine SQ.exit ?_ | refine AC.ret ?_ | refine AC.exit ?_ | refine AC.skip ?_ | (refine AR.split rfl (fun h => ?_) (fun h => ?_) <;> rw [h]) | (refine AC.cond rfl (fun h => ?_) (fun h => ?_) <;> rw [h]) | refine FQ.ret rfl rfl ?_ | refine FQ.normal rfl rfl ?_)
        all_goals exact ⟨_, rfl, .inr (.inr ⟨2, rfl, rfl⟩), rfl⟩
  )
  refine H.mono fun e w' he => ?_
  obtain ⟨u, st, ρ, a, ⟨X, rfl, hX, h0⟩, rfl, hs⟩ := he
  have full := box_deep_at (hs.bx _ _ h0).1
  rcases hX with ⟨rfl, hS⟩ | ⟨x, hx, rfl, hS⟩ | ⟨q, rfl, hq⟩
  · exact ⟨none, 0, by rw [hS]; rfl, by rw [hS]; exact ⟨⟨rfl, fun h => absurd h (Nat.lt_irrefl _)⟩, Nat.le_refl _, Nat.zero_le _⟩, fun g hg => by rw [hS] at hg; exact absurd hg.1 (Nat.lt_irrefl _), hs.bl⟩
  · exact ⟨x.A, x.c, by rw [hS]; rfl, by rw [hS]; exact full.1.es x hx, fun g hg => .inr ⟨x, hx, by rw [hS] at hg; exact hg⟩, hs.bl⟩
  · obtain ⟨g1, g2⟩ := box_deep_at (hs.bx _ _ hq).1
    refine ⟨plAd (ρ q), (ρ q).cap, ?_, g1, fun g hg => .inl (g2 g hg).2, hs.bl⟩
    show Ending.returned (.tuple #[.agg #[_, rC ρ (.slice (some ⟨q, 0, none⟩) (sureE (l.map Bk.e)).length 0)], _]) = _
    rw [plAd_slice]
    rfl
end Go.Proofs.YtbageimconenlaaGreat
