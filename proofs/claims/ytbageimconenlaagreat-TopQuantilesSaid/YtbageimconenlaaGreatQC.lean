/- Lists of buckets and of blocks: valid ones. -/
import Derived.Test.YtbageimconenlaaGreatQB
namespace Go.Proofs.YtbageimconenlaaGreat
open Go.RowKit En
set_option linter.unusedVariables false
theorem ent182 : Enters Tryz.prog 182 := enters Tryz.func182 (by kernel_rfl) (by kernel_rfl)
theorem agg3w : aggB Tryz.prog 3 = some false := by kernel_rfl
theorem info3w : (Tryz.prog.info? 3).map (fun i => (i.size, i.bytes, i.zero.map (·.cells.size))) = some (1, 8, some 1) := by kernel_rfl
theorem spl_one : ∀ (C : List Value) (n : Nat) (v : Value), spl C n [v] = C.set n v
  | [], n, v => by cases n <;> rfl
  | c :: C, 0, v => by show v :: spl C 0 [] = _; rw [show spl C 0 [] = C from by cases C <;> rfl]; rfl
  | c :: C, n + 1, v => by show c :: spl C n [v] = _; rw [spl_one C n v]; rfl
section
variable {s : St} {o : Oper} {c : Call}
theorem ok_ld3 {A0 i : Nat} {b : Box} {x : Operand} {u : Int} (ho : o.op = .load 3 x) (hx : ev s x = some (.pointer (some ⟨A0, i, none⟩))) (hb : En.lk s.σ A0 = some b) (hv : b.cells[i]? = some (.int .i64 u)) :
    AOk Tryz.prog s o ⟨rq s [x], [(A0, b)]⟩ ⟨.int .i64 u, [], []⟩ := by
  refine .quiet fun B => ⟨Does.loadOne ho hx hb agg3w rfl hv, ⟨fun t v h => rq_in h, fun n b' h => ?_⟩, rfl, rfl⟩
  simp at h; obtain ⟨rfl, rfl⟩ := h; exact hb
theorem okc_idx {A0 i : Nat} {x ix : Operand} (ho : o.op = .indexAddr 298 x ix) (hx : ev s x = some (.pointer (some ⟨A0, 0, none⟩))) (hix : ev s ix = some (.int .i64 (i : Nat))) (hi : i < 31) :
    AOk Tryz.prog s o ⟨rq s [x, ix], []⟩ ⟨.pointer (some ⟨A0, 0 + i * 1, none⟩), [], []⟩ := by
  obtain ⟨ie, hie, h1⟩ : ∃ ie, Tryz.prog.info? 3 = some ie ∧ ie.size = 1 := by
    have h := info3w
    cases hi : Tryz.prog.info? 3 with
    | none => rw [hi] at h; cases h
    | some ie => rw [hi] at h; simp at h; exact ⟨ie, rfl, h.1⟩
  exact .quiet fun B => ⟨Does.indexA (P := Tryz.prog) (B := B) ho hx hix Tryz.underlying298 hie h1 rfl hi, in_none, rfl, rfl⟩
theorem okc_st {A0 i : Nat} {C C' : List Value} {x y : Operand} {u : Int} (ho : o.op = .store 3 x y) (hx : ev s x = some (.pointer (some ⟨A0, i, none⟩))) (hy : ev s y = some (.int .i64 u)) (hb : En.lk s.σ A0 = some (.row 298 C)) (hi : i < C.length) (hC : C.set i (.int .i64 u) = C') :
    AOk Tryz.prog s o ⟨rq s [x, y], [(A0, .row 298 C)]⟩ ⟨undef, [(A0, .row 298 C')], []⟩ := by
  obtain ⟨ie, hie, h1⟩ : ∃ ie, Tryz.prog.info? 3 = some ie ∧ ie.size = 1 := by
    have h := info3w
    cases hi : Tryz.prog.info? 3 with
    | none => rw [hi] at h; cases h
    | some ie => rw [hi] at h; simp at h; exact ⟨ie, rfl, h.1⟩
  refine ⟨fun B => ?_, ⟨fun t v h => rq_in h, fun n b h => ?_⟩, fun n b h => ?_, .inl rfl, fun n b h => no_mem h⟩
  · have := Does.store (P := Tryz.prog) (B := B) ho hx hy (v := .int .i64 u) (vs := [.int .i64 u]) rfl hb rfl hie h1 rfl (by show i + 1 ≤ C.length; omega) (by simp)
    rw [show Box.put (.row 298 C) i [.int .i64 u] = .row 298 C' from by show Box.row 298 (spl C i _) = _; rw [spl_one, hC]] at this
    exact this
  · simp at h; obtain ⟨rfl, rfl⟩ := h; exact hb
  · simp at h; obtain ⟨rfl, rfl⟩ := h; exact ⟨_, List.mem_cons_self, rfl⟩
theorem okq_len {x : Operand} {T : TypeId} {A : Option Addr} {n k : Nat} (ho : o.op = .call c) (hcal : c.callee = .builtin .len) (hargs : c.args = #[x]) (hty : c.argTypes = #[236]) (hx : ev s x = some (.iface T (.slice A n k))) : AOk Tryz.prog s o ⟨rq s [x], []⟩ ⟨.int .i64 (n : Nat), [], []⟩ := by
  refine .quiet fun B => ⟨Does.value (fun al _ => NB.flat rfl) fun ρ a w hm => ?_, in_none, rfl, rfl⟩
  have hax := ev_eval hm (x := x) (by simp) hx
  have he : rV ρ (.iface T (.slice A n k)) = .slice A n k := rfl
  rw [he] at hax
  rw [rV_flat ρ rfl]
  unfold execOp
  simp only [ho, resolve, hcal, hargs, hty, invoke, builtin, Sem.run_bind, Sem.run_pure, Result.andThen_ok, List.map_toArray, List.map_cons, List.map_nil, hax, Builtin.len_]
  simp [run_underlying Tryz.underlying236]
  rfl
theorem okr_idx {x ix : Operand} {T : TypeId} {A : Option Addr} {b off n k i : Nat} (hA : A = some ⟨b, off, none⟩) (ho : o.op = .indexAddr 236 x ix) (hx : ev s x = some (.iface T (.slice A n k))) (hix : ev s ix = some (.int .i64 (i : Nat))) (hi : i < n) :
    AOk Tryz.prog s o ⟨rq s [x, ix], []⟩ ⟨.iface 0 (.pointer (some ⟨b, off + i * 3, none⟩)), [], []⟩ := by
  subst hA
  obtain ⟨ie, z, hie, h1, _⟩ := info239x
  refine .quiet fun B => ⟨Does.value (fun al _ ρ ρ' _ => rfl) fun ρ a w hm => ?_, in_none, rfl, rfl⟩
  have hax := ev_eval hm (x := x) (by simp) hx
  have hai := ev_eval hm (x := ix) (by simp) hix
  have hxr : rV ρ (.iface T (.slice (some ⟨b, off, none⟩) n k)) = .slice (some ⟨b, off, none⟩) n k := rfl
  have hir : rV ρ (.int .i64 (i : Nat)) = .int .i64 (i : Nat) := rfl
  have hvr : rV ρ (.iface 0 (.pointer (some ⟨b, off + i * 3, none⟩))) = .pointer (some ⟨b, off + i * 3, none⟩) := rfl
  unfold execOp
  simp only [ho, hax, hai, hxr, hir, hvr, Instr.indexAt, asIntOf, Sem.run_bind, Sem.run_pure, Result.andThen_ok, run_underlying Tryz.underlying236]
  have h2 : (0 : Int) ≤ i ∧ (i : Int) < n := by omega
  simp [h2, sizeOf, typeInfo, program, Sem.run, hie, h1, add_ptr]
theorem okr_fld {x : Operand} {T : TypeId} {b off : Nat} (ho : o.op = .fieldAddr 239 x 0) (hx : ev s x = some (.iface T (.pointer (some ⟨b, off, none⟩)))) :
    AOk Tryz.prog s o ⟨rq s [x], []⟩ ⟨.iface 0 (.pointer (some ⟨b, off, none⟩)), [], []⟩ := by
  refine .quiet fun B => ⟨Does.value (fun al _ ρ ρ' _ => rfl) fun ρ a w hm => ?_, in_none, rfl, rfl⟩
  obtain ⟨_, _, hk⟩ := tblOK.at_ (t := 239) (ti := (En.lk tbl 239).get (by kernel_rfl)) (by kernel_rfl)
  obtain ⟨fs, hu, hfl⟩ : ∃ fs, Tryz.prog.underlying 239 = some (.struct fs) ∧ flds Tryz.prog fs.toList [(0, 1), (1, 1), (2, 1)] = true := hk
  obtain ⟨fl, i, hff, hfo, hi, hsz⟩ := flds_at (P := Tryz.prog) hfl (j := 0) (o := 0) (z := 1) rfl
  have hax := ev_eval hm List.mem_cons_self hx
  have hne : ¬ i.size = 0 := by omega
  have hf' : fs[0]? = some fl := by simpa using hff
  have hxr : rV ρ (.iface T (.pointer (some ⟨b, off, none⟩))) = .pointer (some ⟨b, off, none⟩) := rfl
  have hvr : rV ρ (.iface 0 (.pointer (some ⟨b, off, none⟩))) = .pointer (some ⟨b, off, none⟩) := rfl
  unfold execOp
  simp only [ho, hax, hxr, hvr, Instr.fieldAt, Sem.run_bind, run_underlying hu, Result.andThen_ok, hf', Instr.sureAddr, Sem.run_pure, fieldPlace, sizeOf, typeInfo, program]
  simp [Sem.run, hi, hne, add_ptr, hfo]
theorem okr_ld {e : Nat} {F : Pl → World → Prop} {x : Operand} {T : TypeId} {b off : Nat} {u : Int} (ho : o.op = .load 2 x) (hx : ev s x = some (.iface T (.pointer (some ⟨b, off, none⟩)))) (he : En.lk s.σ e = some (.deep F)) (hF : ∀ p w, F p w → w.cell? ⟨b, off, none⟩ = some (.int .i64 u)) :
    AOk Tryz.prog s o ⟨rq s [x], [(e, .deep F)]⟩ ⟨.int .i64 u, [], []⟩ := by
  refine .quiet fun B => ⟨Does.value (fun al _ => NB.flat rfl) fun ρ a w hm => ?_, ⟨fun t v h => rq_in h, fun n b' h => ?_⟩, rfl, rfl⟩
  · have hax := ev_eval hm (x := x) (by simp) hx
    have hxr : rV ρ (.iface T (.pointer (some ⟨b, off, none⟩))) = .pointer (some ⟨b, off, none⟩) := rfl
    rw [hxr] at hax
    have hc := hF _ w ((hm.σ e _ List.mem_cons_self).2 w (Nat.le_refl _) fun _ _ => rfl)
    rw [rV_flat ρ rfl]
    unfold execOp
    simp only [ho, hax, Instr.loadAt, Instr.sureAddr, Sem.run_bind, Sem.run_pure, Result.andThen_ok]
    rw [run_loadOne agg2w hc]; rfl
  · simp at h; obtain ⟨rfl, rfl⟩ := h; exact he
end
def cnt (l : Nat) (es : List Eb) : Nat := es.countP fun e => Nat.beq e.lv l
def cntC (es : List Eb) : List Value := (List.range 31).map fun l => Value.int .i64 ((cnt l es : Nat))
theorem cntC_len (es : List Eb) : (cntC es).length = 31 := by simp [cntC]
theorem cntC_at (es : List Eb) {l : Nat} (h : l < 31) : (cntC es)[l]? = some (.int .i64 ((cnt l es : Nat))) := by
  unfold cntC; rw [List.getElem?_map, List.getElem?_range h]; rfl
theorem cnt_snoc (l : Nat) (es : List Eb) (b : Eb) : cnt l (es ++ [b]) = cnt l es + if b.lv = l then 1 else 0 := by
  unfold cnt; rw [List.countP_append]
  by_cases h : b.lv = l
  · simp [h]
  · rw [if_neg h]; simp [h]
theorem cntC_snoc (es : List Eb) (b : Eb) (h : b.lv < 31) : (cntC es).set b.lv (.int .i64 ((cnt b.lv es + 1 : Nat))) = cntC (es ++ [b]) := by
  refine List.ext_getElem? fun i => ?_
  rw [List.getElem?_set]
  by_cases hi : i < 31
  · rw [cntC_at _ hi, cntC_at _ hi, cnt_snoc]
    by_cases e : b.lv = i
    · rw [if_pos e, if_pos (by rw [cntC_len]; omega), if_pos e, e]
    · rw [if_neg e, if_neg e]
      rfl
  · rw [if_neg (by omega), List.getElem?_eq_none (by rw [cntC_len]; omega), List.getElem?_eq_none (by rw [cntC_len]; omega)]
theorem mv_cnt (f : Nat → Nat) (t : TypeId) (es : List Eb) : mvB f (.row t (cntC es)) = .row t (cntC es) := by
  show Box.row t _ = _
  unfold cntC
  rw [List.map_map]
  congr 1
theorem allNC_cnt (al : List Nat) (es : List Eb) : allNC al (cntC es) = true := by
  unfold cntC
  generalize List.range 31 = r
  induction r with
  | nil => rfl
  | cons x r ih => exact ih
structure VB (es : List Eb) (k : Nat) : Prop where
  rng : ∀ e ∈ es, (0 ≤ e.t ∧ e.t ≤ 16777216) ∧ e.lv ≤ 30
  two : ∀ (i : Nat) (a b : Eb), es[i]? = some a → es[i + 1]? = some b → a.t ≤ b.t ∧ b.lv ≤ a.lv
  cnt : ∀ e0, es[0]? = some e0 → ∀ l, l ≤ e0.lv → cnt l es ≤ k + 1 ∧ (l < e0.lv → k ≤ cnt l es)
structure EbOK (e : Eb) : Prop where
  len : e.vs.length = 2 ^ e.lv
  asc : Asc e.vs
  rng : ∀ v ∈ e.vs, -4096 ≤ v ∧ v ≤ 4096
  last : e.last ∈ e.vs
structure DB (es : List Eb) (k : Nat) (b : Int) : Prop where
  vb : VB es k
  ok : ∀ e ∈ es, EbOK e
  fit : ∀ e ∈ es, ((2 ^ e.lv : Nat) : Int) ≤ b + 1
  tot : totE es ≤ 900
theorem pow_le_tot {es : List Eb} {e : Eb} (h : e ∈ es) : 2 ^ e.lv ≤ totE es := by
  induction es with
  | nil => cases h
  | cons x es ih =>
    rw [totE]
    rcases List.mem_cons.1 h with g | g
    · subst g; exact Nat.le_add_right _ _
    · exact Nat.le_trans (ih g) (Nat.le_add_left _ _)
set_option maxRecDepth 100000 in
set_option maxHeartbeats 1000000 in
theorem qc_buckets (es : List Eb) (n k : Nat) (hl : es.length = n) (hn : n ≤ 900) (k1 : 1 ≤ k) (k2 : k ≤ 128) (hv : VB es k) (w : World) (A : Option Addr) (c : Nat) (h : SL w A n c 2 (buL es)) :
    Calls Tryz.prog 174 #[.slice A n c, .int .i64 ((k : Nat))] w (fun e w' => e = .returned (.bool true) ∧ Below w.heap.size w w') := by
  have d1 : decide ((k : Int) < 1) = false := by simp only [decide_eq_false_iff_not]; omega
  have d2 : decide ((k : Int) > 128) = false := by simp only [decide_eq_false_iff_not]; omega
  have wk : IntKind.i64.wrap ((k : Int) + 1) = (k : Int) + 1 := IntWalk.i64_in _ (by omega)
  refine fun_sliceF tblOK mixedP Tryz.func174 rfl (fun s => [s, .int .i64 ((k : Nat))]) n 2 (buL es) h (by decide) (allFC_bu _) [.slice (some ⟨0, 0, none⟩) n 0, .int .i64 ((k : Nat))] rfl (fun _ => rfl) 94 [(0, .slice (some ⟨0, 0, none⟩) n 0), (1, .int .i64 ((k : Nat)))] rfl rfl (by kernel_rfl) rfl rfl _ rfl ?_
  repeat' (first | rw [d1] | rw [d2] | refine AR.auto rfl ?_ | refine AR.nil ?_ | refine KF.mk ?_ | refine KT.mk (by kernel_rfl) ?_ | refine SQ.normal ?_ | refine AC.seq ?_ | refine AC.regF ?_ | refine AC.regT ?_ | refine AC.condT rfl ?_ | refine AC.condF rfl ?_ | refine AC.block ?_ | refine BQ.normal ?_ | refine BQ.ret ?_ | refine BQ.here ?_ | refine BQ.there rfl ?_ | refine SQ.ret ?_ | refine SQ.exit ?_ | refine AC.ret ?_ | refine AC.exit ?_ | refine AC.skip ?_ | (refine AR.split rfl (fun h => ?_) (fun h => ?_) <;> rw [h]) | (refine AC.cond rfl (fun h => ?_) (fun h => ?_) <;> rw [h]) | refine FQ.ret rfl rfl ?_ | refine FQ.normal rfl rfl ?_)
  refine AC.loop (fun p st => ∃ i : Nat, p = n - i ∧ i ≤ n ∧ st = ⟨[(18, .int .i64 (i : Nat)), (17, .int .i64 (n : Nat)), (16, .slice (some ⟨0, 0, none⟩) n 0), (5, .pointer (some ⟨1, 0, none⟩)), (1, .int .i64 ((k : Nat))), (0, .slice (some ⟨0, 0, none⟩) n 0)], [(1, .row 298 (cntC (es.take i))), (0, .view 2 (buL es))], [1, 0], 94⟩) n _ ?_ ⟨0, rfl, Nat.zero_le _, rfl⟩ ?_
  · exact Ren.mv (tabF []) rfl (fun k hk => by match k, hk with | 0, _ => exact ⟨rfl, rfl⟩) ⟨⟨rfl, rfl⟩, ⟨rfl, rfl⟩, ⟨rfl, rfl⟩, ⟨rfl, rfl⟩, ⟨rfl, rfl⟩, ⟨rfl, rfl⟩, trivial⟩ ⟨⟨by rw [mv_cnt]; rfl, rfl, allNC_cnt _ _⟩, ⟨by rw [mv_buv]; rfl, rfl, allNC_bu _ _⟩, trivial⟩ rfl
  intro p st hi
  obtain ⟨i, rfl, hin, rfl⟩ := hi
  by_cases hlt : i < n
  · have hd : decide ((i : Int) < (n : Int)) = true := by simp only [decide_eq_true_eq]; omega
    have w4 : IntKind.i64.wrap ((i : Int) + 1) = ((i + 1 : Nat) : Int) := by rw [IntWalk.i64_in _ (by omega)]; rfl
    obtain ⟨b, hb⟩ : ∃ b, es[i]? = some b := ⟨es[i]'(by omega), List.getElem?_eq_getElem (by omega)⟩
    have hrg := hv.rng b (List.mem_of_getElem? hb)
    have eT : es.take (i + 1) = es.take i ++ [b] := by rw [List.take_add_one, hb]; rfl
    have hcl : cnt b.lv (es.take i) ≤ n := Nat.le_trans (List.countP_le_length) (by rw [List.length_take]; omega)
    have w5 : IntKind.i64.wrap (((cnt b.lv (es.take i) : Nat) : Int) + 1) = ((cnt b.lv (es.take i) + 1 : Nat) : Int) := by rw [IntWalk.i64_in _ (by omega)]; rfl
    by_cases hi0 : i = 0
    · have z0 : decide ((i : Int) > 0) = false := by simp only [decide_eq_false_iff_not]; omega
      repeat' (first | rw [hd] | rw [w4] | rw [z0] | rw [w5] | refine AR.auto rfl ?_ | refine AR.man (oku_idx (A0 := 0) (i := i) rfl rfl rfl rfl (nonE_buv 2 (by omega)) (by omega)) rfl rfl rfl ?_ | refine AR.man (oku_ld (m := b) rfl rfl rfl (fun jj u hu => by rw [show 0 + i * 2 + jj = i * 2 + jj from (by omega), show (Box.view 2 (buL es)).cells = buL es from rfl, buL_at es i jj b hb (by have := (List.getElem?_eq_some_iff.1 hu).1; simpa [buC] using this)]; exact hu)) rfl rfl rfl ?_ | refine AR.man (ok_qb_tick (x := b.t) hrg.1.1 hrg.1.2 rfl rfl rfl) rfl rfl rfl ?_ | refine AR.man (ok_qb_level hrg.2 rfl rfl rfl) rfl rfl rfl ?_ | refine AR.man (okc_idx (i := b.lv) rfl rfl rfl (by omega)) rfl rfl rfl ?_ | refine AR.man (ok_ld3 (A0 := 1) (u := ((cnt b.lv (es.take i) : Nat) : Int)) rfl rfl rfl (by show (cntC (es.take i))[_]? = _; rw [Nat.zero_add, Nat.mul_one]; exact cntC_at _ (by omega))) rfl rfl rfl ?_ | refine AR.man (okc_st (C := cntC (es.take i)) (C' := cntC (es.take i ++ [b])) rfl rfl rfl rfl (by rw [cntC_len]; omega) (by rw [Nat.zero_add, Nat.mul_one]; exact cntC_snoc _ _ (by omega))) rfl rfl rfl ?_ | refine AR.nil ?_ | refine KF.mk ?_ | refine KT.mk (by kernel_rfl) ?_ | refine SQ.normal ?_ | refine AC.seq ?_ | refine AC.regF ?_ | refine AC.regT ?_ | refine AC.condT rfl ?_ | refine AC.condF rfl ?_ | refine AC.block ?_ | refine BQ.normal ?_ | refine BQ.ret ?_ | refine BQ.here ?_ | refine BQ.there rfl ?_ | refine SQ.ret ?_ | refine SQ.exit ?_ | refine AC.ret ?_ | refine AC.exit ?_ | refine AC.skip ?_ | (refine AR.split rfl (fun h => ?_) (fun h => ?_) <;> rw [h]) | (refine AC.cond rfl (fun h => ?_) (fun h => ?_) <;> rw [h]) | refine FQ.ret rfl rfl ?_ | refine FQ.normal rfl rfl ?_)
      refine ⟨n - (i + 1), _, by omega, ?_, i + 1, rfl, by omega, rfl⟩
      rw [eT]
      exact Ren.mv (tabF []) rfl (fun k hk => by match k, hk with | 0, _ => exact ⟨rfl, rfl⟩) ⟨⟨rfl, rfl⟩, ⟨rfl, rfl⟩, ⟨rfl, rfl⟩, ⟨rfl, rfl⟩, ⟨rfl, rfl⟩, ⟨rfl, rfl⟩, trivial⟩ ⟨⟨by rw [mv_cnt]; rfl, rfl, allNC_cnt _ _⟩, ⟨by rw [mv_buv]; rfl, rfl, allNC_bu _ _⟩, trivial⟩ rfl
    · have z0 : decide ((i : Int) > 0) = true := by simp only [decide_eq_true_eq]; omega
      have w6 : IntKind.i64.wrap ((i : Int) - 1) = ((i - 1 : Nat) : Int) := by rw [IntWalk.i64_in _ (by omega)]; omega
      obtain ⟨a, ha⟩ : ∃ a, es[i - 1]? = some a := ⟨es[i - 1]'(by omega), List.getElem?_eq_getElem (by omega)⟩
      obtain ⟨t1, t2⟩ := hv.two (i - 1) a b ha (by rw [show i - 1 + 1 = i by omega]; exact hb)
      have z1 : decide (a.t > b.t) = false := by simp only [decide_eq_false_iff_not]; omega
      have z2 : decide (((a.lv : Nat) : Int) < ((b.lv : Nat) : Int)) = false := by simp only [decide_eq_false_iff_not]; omega
      repeat' (first | rw [hd] | rw [w4] | rw [z0] | rw [z1] | rw [z2] | rw [w5] | rw [w6] | refine AR.auto rfl ?_ | refine AR.man (oku_idx (A0 := 0) (i := i) rfl rfl rfl rfl (nonE_buv 2 (by omega)) (by omega)) rfl rfl rfl ?_ | refine AR.man (oku_ld (m := b) rfl rfl rfl (fun jj u hu => by rw [show 0 + i * 2 + jj = i * 2 + jj from (by omega), show (Box.view 2 (buL es)).cells = buL es from rfl, buL_at es i jj b hb (by have := (List.getElem?_eq_some_iff.1 hu).1; simpa [buC] using this)]; exact hu)) rfl rfl rfl ?_ | refine AR.man (ok_qb_tick (x := b.t) hrg.1.1 hrg.1.2 rfl rfl rfl) rfl rfl rfl ?_ | refine AR.man (ok_qb_level hrg.2 rfl rfl rfl) rfl rfl rfl ?_ | refine AR.man (oku_idx (A0 := 0) (i := i - 1) rfl rfl rfl rfl (nonE_buv 2 (by omega)) (by omega)) rfl rfl rfl ?_ | refine AR.man (ok_ld (A0 := 0) (u := a.t) rfl rfl rfl (by show (buL es)[_]? = _; rw [show 0 + (i - 1) * 2 + 0 = (i - 1) * 2 + 0 from (by omega), buL_at es (i - 1) 0 a ha (by decide)]; rfl)) rfl rfl rfl ?_ | refine AR.man (ok_ld3 (A0 := 0) (u := ((a.lv : Nat) : Int)) rfl rfl rfl (by show (buL es)[_]? = _; rw [show 0 + (i - 1) * 2 + 1 = (i - 1) * 2 + 1 from (by omega), buL_at es (i - 1) 1 a ha (by decide)]; rfl)) rfl rfl rfl ?_ | refine AR.man (okc_idx (i := b.lv) rfl rfl rfl (by omega)) rfl rfl rfl ?_ | refine AR.man (ok_ld3 (A0 := 1) (u := ((cnt b.lv (es.take i) : Nat) : Int)) rfl rfl rfl (by show (cntC (es.take i))[_]? = _; rw [Nat.zero_add, Nat.mul_one]; exact cntC_at _ (by omega))) rfl rfl rfl ?_ | refine AR.man (okc_st (C := cntC (es.take i)) (C' := cntC (es.take i ++ [b])) rfl rfl rfl rfl (by rw [cntC_len]; omega) (by rw [Nat.zero_add, Nat.mul_one]; exact cntC_snoc _ _ (by omega))) rfl rfl rfl ?_ | refine AR.nil ?_ | refine KF.mk ?_ | refine KT.mk (by kernel_rfl) ?_ | refine SQ.normal ?_ | refine AC.seq ?_ | refine AC.regF ?_ | refine AC.regT ?_ | refine AC.condT rfl ?_ | refine AC.condF rfl ?_ | refine AC.block ?_ | refine BQ.normal ?_ | refine BQ.ret ?_ | refine BQ.here ?_ | refine BQ.there rfl ?_ | refine SQ.ret ?_ | refine SQ.exit ?_ | refine AC.ret ?_ | refine AC.exit ?_ | refine AC.skip ?_ | (refine AR.split rfl (fun h => ?_) (fun h => ?_) <;> rw [h]) | (refine AC.cond rfl (fun h => ?_) (fun h => ?_) <;> rw [h]) | refine FQ.ret rfl rfl ?_ | refine FQ.normal rfl rfl ?_)
      refine ⟨n - (i + 1), _, by omega, ?_, i + 1, rfl, by omega, rfl⟩
      rw [eT]
      exact Ren.mv (tabF []) rfl (fun k hk => by match k, hk with | 0, _ => exact ⟨rfl, rfl⟩) ⟨⟨rfl, rfl⟩, ⟨rfl, rfl⟩, ⟨rfl, rfl⟩, ⟨rfl, rfl⟩, ⟨rfl, rfl⟩, ⟨rfl, rfl⟩, trivial⟩ ⟨⟨by rw [mv_cnt]; rfl, rfl, allNC_cnt _ _⟩, ⟨by rw [mv_buv]; rfl, rfl, allNC_bu _ _⟩, trivial⟩ rfl
  · obtain rfl : n = i := by omega
    have hd : decide ((n : Int) < (n : Int)) = false := by simp
    rw [List.take_of_length_le (by omega)]
    by_cases hn0 : n = 0
    · have z0 : ((n : Int) == 0) = true := by rw [beq_iff_eq]; omega
      repeat' (first | rw [hd] | rw [z0] | refine AR.auto rfl ?_ | refine AR.nil ?_ | refine KF.mk ?_ | refine KT.mk (by kernel_rfl) ?_ | refine SQ.normal ?_ | refine AC.seq ?_ | refine AC.regF ?_ | refine AC.regT ?_ | refine AC.condT rfl ?_ | refine AC.condF rfl ?_ | refine AC.block ?_ | refine BQ.normal ?_ | refine BQ.ret ?_ | refine BQ.here ?_ | refine BQ.there rfl ?_ | refine SQ.ret ?_ | refine SQ.exit ?_ | refine AC.ret ?_ | refine AC.exit ?_ | refine AC.skip ?_ | (refine AR.split rfl (fun h => ?_) (fun h => ?_) <;> rw [h]) | (refine AC.cond rfl (fun h => ?_) (fun h => ?_) <;> rw [h]) | refine FQ.ret rfl rfl ?_ | refine FQ.normal rfl rfl ?_)
      all_goals rfl
    · have z0 : ((n : Int) == 0) = false := by rw [beq_eq_false_iff_ne]; omega
      obtain ⟨e0, he0⟩ : ∃ e0, es[0]? = some e0 := ⟨es[0]'(by omega), List.getElem?_eq_getElem (by omega)⟩
      have hrg := hv.rng e0 (List.mem_of_getElem? he0)
      repeat' (first | rw [hd] | rw [z0] | refine AR.auto rfl ?_ | refine AR.man (oku_idx (A0 := 0) (i := 0) rfl rfl rfl rfl (nonE_buv 2 (by omega)) (by omega)) rfl rfl rfl ?_ | refine AR.man (ok_ld3 (A0 := 0) (u := ((e0.lv : Nat) : Int)) rfl rfl rfl (by show (buL es)[_]? = _; rw [show 0 + 0 * 2 + 1 = 0 * 2 + 1 from (by omega), buL_at es 0 1 e0 he0 (by decide)]; rfl)) rfl rfl rfl ?_ | refine AR.nil ?_ | refine KF.mk ?_ | refine KT.mk (by kernel_rfl) ?_ | refine SQ.normal ?_ | refine AC.seq ?_ | refine AC.regF ?_ | refine AC.regT ?_ | refine AC.condT rfl ?_ | refine AC.condF rfl ?_ | refine AC.block ?_ | refine BQ.normal ?_ | refine BQ.ret ?_ | refine BQ.here ?_ | refine BQ.there rfl ?_ | refine SQ.ret ?_ | refine SQ.exit ?_ | refine AC.ret ?_ | refine AC.exit ?_ | refine AC.skip ?_ | (refine AR.split rfl (fun h => ?_) (fun h => ?_) <;> rw [h]) | (refine AC.cond rfl (fun h => ?_) (fun h => ?_) <;> rw [h]) | refine FQ.ret rfl rfl ?_ | refine FQ.normal rfl rfl ?_)
      refine AC.loop (fun p st => ∃ l : Nat, p = e0.lv + 1 - l ∧ l ≤ e0.lv + 1 ∧ st = ⟨[(9, .int .i64 (l : Nat)), (8, .int .i64 ((e0.lv : Nat))), (5, .pointer (some ⟨1, 0, none⟩)), (1, .int .i64 ((k : Nat)))], [(1, .row 298 (cntC es)), (0, .view 2 (buL es))], [1, 0], 94⟩) (e0.lv + 1) _ ?_ ⟨0, rfl, Nat.zero_le _, rfl⟩ ?_
      · exact Ren.mv (tabF []) rfl (fun k hk => by match k, hk with | 0, _ => exact ⟨rfl, rfl⟩) ⟨⟨rfl, rfl⟩, ⟨rfl, rfl⟩, ⟨rfl, rfl⟩, ⟨rfl, rfl⟩, trivial⟩ ⟨⟨by rw [mv_cnt]; rfl, rfl, allNC_cnt _ _⟩, ⟨by rw [mv_buv]; rfl, rfl, allNC_bu _ _⟩, trivial⟩ rfl
      intro p st hi
      obtain ⟨l, rfl, hin, rfl⟩ := hi
      by_cases hlt : l ≤ e0.lv
      · have hd : decide ((l : Int) ≤ ((e0.lv : Nat) : Int)) = true := by simp only [decide_eq_true_eq]; omega
        have w4 : IntKind.i64.wrap ((l : Int) + 1) = ((l + 1 : Nat) : Int) := by rw [IntWalk.i64_in _ (by omega)]; rfl
        obtain ⟨c1, c2⟩ := hv.cnt e0 he0 l hlt
        have z1 : decide (((cnt l es : Nat) : Int) > (k : Int) + 1) = false := by simp only [decide_eq_false_iff_not]; omega
        by_cases hll : l < e0.lv
        · have z2 : decide ((l : Int) < ((e0.lv : Nat) : Int)) = true := by simp only [decide_eq_true_eq]; omega
          have z3 : decide (((cnt l es : Nat) : Int) < (k : Int)) = false := by have := c2 hll; simp only [decide_eq_false_iff_not]; omega
          repeat' (first | rw [hd] | rw [w4] | rw [wk] | rw [z1] | rw [z2] | rw [z3] | refine AR.auto rfl ?_ | refine AR.man (okc_idx (i := l) rfl rfl rfl (by omega)) rfl rfl rfl ?_ | refine AR.man (ok_ld3 (A0 := 1) (u := ((cnt l es : Nat) : Int)) rfl rfl rfl (by show (cntC es)[_]? = _; rw [Nat.zero_add, Nat.mul_one]; exact cntC_at _ (by omega))) rfl rfl rfl ?_ | refine AR.nil ?_ | refine KF.mk ?_ | refine KT.mk (by kernel_rfl) ?_ | refine SQ.normal ?_ | refine AC.seq ?_ | refine AC.regF ?_ | refine AC.regT ?_ | refine AC.condT rfl ?_ | refine AC.condF rfl ?_ | refine AC.block ?_ | refine BQ.normal ?_ | refine BQ.ret ?_ | refine BQ.here ?_ | refine BQ.there rfl ?_ | refine SQ.ret ?_ | refine SQ.exit ?_ | refine AC.ret ?_ | refine AC.exit ?_ | refine AC.skip ?_ | (refine AR.split rfl (fun h => ?_) (fun h => ?_) <;> rw [h]) | (refine AC.cond rfl (fun h => ?_) (fun h => ?_) <;> rw [h]) | refine FQ.ret rfl rfl ?_ | refine FQ.normal rfl rfl ?_)
          refine ⟨e0.lv + 1 - (l + 1), _, by omega, ?_, l + 1, rfl, by omega, rfl⟩
          exact Ren.mv (tabF []) rfl (fun k hk => by match k, hk with | 0, _ => exact ⟨rfl, rfl⟩) ⟨⟨rfl, rfl⟩, ⟨rfl, rfl⟩, ⟨rfl, rfl⟩, ⟨rfl, rfl⟩, trivial⟩ ⟨⟨by rw [mv_cnt]; rfl, rfl, allNC_cnt _ _⟩, ⟨by rw [mv_buv]; rfl, rfl, allNC_bu _ _⟩, trivial⟩ rfl
        · have z2 : decide ((l : Int) < ((e0.lv : Nat) : Int)) = false := by simp only [decide_eq_false_iff_not]; omega
          repeat' (first | rw [hd] | rw [w4] | rw [wk] | rw [z1] | rw [z2] | refine AR.auto rfl ?_ | refine AR.man (okc_idx (i := l) rfl rfl rfl (by omega)) rfl rfl rfl ?_ | refine AR.man (ok_ld3 (A0 := 1) (u := ((cnt l es : Nat) : Int)) rfl rfl rfl (by show (cntC es)[_]? = _; rw [Nat.zero_add, Nat.mul_one]; exact cntC_at _ (by omega))) rfl rfl rfl ?_ | refine AR.nil ?_ | refine KF.mk ?_ | refine KT.mk (by kernel_rfl) ?_ | refine SQ.normal ?_ | refine AC.seq ?_ | refine AC.regF ?_ | refine AC.regT ?_ | refine AC.condT rfl ?_ | refine AC.condF rfl ?_ | refine AC.block ?_ | refine BQ.normal ?_ | refine BQ.ret ?_ | refine BQ.here ?_ | refine BQ.there rfl ?_ | refine SQ.ret ?_ | refine SQ.exit ?_ | refine AC.ret ?_ | refine AC.exit ?_ | refine AC.skip ?_ | (refine AR.split rfl (fun h => ?_) (fun h => ?_) <;> rw [h]) | (refine AC.cond rfl (fun h => ?_) (fun h => ?_) <;> rw [h]) | refine FQ.ret rfl rfl ?_ | refine FQ.normal rfl rfl ?_)
          refine ⟨e0.lv + 1 - (l + 1), _, by omega, ?_, l + 1, rfl, by omega, rfl⟩
          exact Ren.mv (tabF []) rfl (fun k hk => by match k, hk with | 0, _ => exact ⟨rfl, rfl⟩) ⟨⟨rfl, rfl⟩, ⟨rfl, rfl⟩, ⟨rfl, rfl⟩, ⟨rfl, rfl⟩, trivial⟩ ⟨⟨by rw [mv_cnt]; rfl, rfl, allNC_cnt _ _⟩, ⟨by rw [mv_buv]; rfl, rfl, allNC_bu _ _⟩, trivial⟩ rfl
      · have hd : decide ((l : Int) ≤ ((e0.lv : Nat) : Int)) = false := by simp only [decide_eq_false_iff_not]; omega
        repeat' (first | rw [hd] | refine AR.auto rfl ?_ | refine AR.nil ?_ | refine KF.mk ?_ | refine KT.mk (by kernel_rfl) ?_ | refine SQ.normal ?_ | refine AC.seq ?_ | refine AC.regF ?_ | refine AC.regT ?_ | refine AC.condT rfl ?_ | refine AC.condF rfl ?_ | refine AC.block ?_ | refine BQ.normal ?_ | refine BQ.ret ?_ | refine BQ.here ?_ | refine BQ.there rfl ?_ | refine SQ.ret ?_ | refine SQ.exit ?_ | refine AC.ret ?_ | refine AC.exit ?_ | refine AC.skip ?_ | (refine AR.split rfl (fun h => ?_) (fun h => ?_) <;> rw [h]) | (refine AC.cond rfl (fun h => ?_) (fun h => ?_) <;> rw [h]) | refine FQ.ret rfl rfl ?_ | refine FQ.normal rfl rfl ?_)
        all_goals rfl
end Go.Proofs.YtbageimconenlaaGreat
