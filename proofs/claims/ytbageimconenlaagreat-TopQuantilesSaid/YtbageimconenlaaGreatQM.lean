/- Lists of blocks as quoted slices. | Lists of blocks: the old ones go. -/
import Derived.Test.YtbageimconenlaaGreatQI
import Derived.Test.YtbageimconenlaaGreatQL
namespace Go.Proofs.YtbageimconenlaaGreat
open Go.RowKit En
set_option linter.unusedVariables false
section
variable {s : St} {o : Oper} {c : Call}
theorem okw_len {x : Operand} {T : TypeId} {A : Option Addr} {n k : Nat} (ho : o.op = .call c) (hcal : c.callee = .builtin .len) (hargs : c.args = #[x]) (hty : c.argTypes = #[52]) (hx : ev s x = some (.iface T (.slice A n k))) : AOk Tryz.prog s o ⟨rq s [x], []⟩ ⟨.int .i64 (n : Nat), [], []⟩ := by
  refine .quiet fun B => ⟨Does.value (fun al _ => NB.flat rfl) fun ρ a w hm => ?_, in_none, rfl, rfl⟩
  have hax := ev_eval hm (x := x) (by simp) hx
  have he : rV ρ (.iface T (.slice A n k)) = .slice A n k := rfl
  rw [he] at hax
  rw [rV_flat ρ rfl]
  unfold execOp
  simp only [ho, resolve, hcal, hargs, hty, invoke, builtin, Sem.run_bind, Sem.run_pure, Result.andThen_ok, List.map_toArray, List.map_cons, List.map_nil, hax, Builtin.len_]
  simp [run_underlying Tryz.underlying52]
  rfl
theorem okw_idx {x ix : Operand} {T : TypeId} {A : Option Addr} {b off n k i : Nat} (hA : A = some ⟨b, off, none⟩) (ho : o.op = .indexAddr 52 x ix) (hx : ev s x = some (.iface T (.slice A n k))) (hix : ev s ix = some (.int .i64 (i : Nat))) (hi : i < n) :
    AOk Tryz.prog s o ⟨rq s [x, ix], []⟩ ⟨.iface 0 (.pointer (some ⟨b, off + i * 5, none⟩)), [], []⟩ := by
  subst hA
  obtain ⟨ie, z, hie, h1, _⟩ := info273x
  refine .quiet fun B => ⟨Does.value (fun al _ ρ ρ' _ => rfl) fun ρ a w hm => ?_, in_none, rfl, rfl⟩
  have hax := ev_eval hm (x := x) (by simp) hx
  have hai := ev_eval hm (x := ix) (by simp) hix
  have hxr : rV ρ (.iface T (.slice (some ⟨b, off, none⟩) n k)) = .slice (some ⟨b, off, none⟩) n k := rfl
  have hir : rV ρ (.int .i64 (i : Nat)) = .int .i64 (i : Nat) := rfl
  have hvr : rV ρ (.iface 0 (.pointer (some ⟨b, off + i * 5, none⟩))) = .pointer (some ⟨b, off + i * 5, none⟩) := rfl
  unfold execOp
  simp only [ho, hax, hai, hxr, hir, hvr, Instr.indexAt, asIntOf, Sem.run_bind, Sem.run_pure, Result.andThen_ok, run_underlying Tryz.underlying52]
  have h2 : (0 : Int) ≤ i ∧ (i : Int) < n := by omega
  simp [h2, sizeOf, typeInfo, program, Sem.run, hie, h1, add_ptr]
theorem okw_cut {x : Operand} {T : TypeId} {A : Option Addr} {n k : Nat} (ho : o.op = .slice 52 x (some (.const (.int .i64 1))) none none) (hx : ev s x = some (.iface T (.slice A n k))) (hn : 0 < n) :
    AOk Tryz.prog s o ⟨rq s [x], []⟩ ⟨.iface 0 (sliced A 1 n k 5), [], []⟩ := by
  have hs : ∃ A' c', sliced A 1 n k 5 = .slice A' (n - 1) c' := by unfold sliced; exact ⟨_, _, rfl⟩
  refine .quiet fun B => ⟨Does.value (fun al _ => ?_) fun ρ a w hm => ?_, in_none, rfl, rfl⟩
  · obtain ⟨A', c', e⟩ := hs
    rw [e]; exact fun ρ ρ' _ => rfl
  · have hax := ev_eval hm (x := x) (by simp) hx
    have hxr : rV ρ (.iface T (.slice A n k)) = .slice A n k := rfl
    have hvr : rV ρ (.iface 0 (sliced A 1 n k 5)) = sliced A 1 n k 5 := by
      obtain ⟨A', c', e⟩ := hs
      rw [e]; rfl
    rw [hxr] at hax
    rw [hvr]
    have hk1 : a.eval (.const (.int .i64 1)) = .int .i64 1 := rfl
    have hel : Tryz.prog.elem 52 = 273 := by kernel_rfl
    have hu : Tryz.prog.underlying 52 = some (.slice (Tryz.prog.elem 52)) := by rw [hel]; exact Tryz.underlying52
    unfold execOp
    simp only [ho, hax, Option.map_some, Option.map_none, hk1]
    rw [Sem.run_bind, run_sliceAt_slice (h := hu), run_slice_l (ht := hu) (kl := .i64) (l := 1) (h0 := by decide) (h1 := by omega), hel, sizeOf273w]
    rfl
end
theorem Ren.name {I nt e d t : Nat} {tm : List (Nat × Value)} {al : List Nat} {T : TypeId} {A : Option Addr} {n c : Nat} {F : Pl → World → Prop} {l : List Bk}
    (hF : ∀ p w, F p w → SL w A n c 5 (bkRL l)) (he : memB e al = false) (hI : Nat.ble I e = true) :
    Ren I ⟨(t, .iface T (.slice A n c)) :: tm, [(d, .deep F)], al, nt⟩ ⟨(t, .slice (some ⟨e, 0, none⟩) n 0) :: tm, [(e, .view 5 (bkQL l)), (d, .deep F)], e :: al, nt⟩ := by
  refine ⟨rfl, fun cx ρ a w hc hs => ?_⟩
  have kd : En.lk [(d, Box.deep F)] d = some (.deep F) := by rw [lk_cons, if_pos rfl]
  obtain ⟨bd, dal, _⟩ := hs.bx _ _ kd
  have hSL := hF _ _ (box_deep_at bd)
  have nal : ∀ n, n ∈ al → n ≠ e := fun n hn h => by subst h; rw [memB_iff.2 hn] at he; cases he
  have nde : d ≠ e := nal d dal
  have hag : agr al ρ (upd ρ e (plOf A c)) := fun n hn => (upd_other ρ _ (nal n hn)).symm
  refine ⟨upd ρ e (plOf A c), hs.df, hs.nt, hs.bl, hs.hB, fun n hn => ?_, fun n hn => List.mem_cons_of_mem _ (hs.al n hn), fun t' v ht => ?_, fun n b hb => ?_, fun n k b b' hb hb' hne hw => ?_⟩
  · rw [← hs.fx n hn]
    refine upd_other ρ _ ?_
    intro h
    have := Nat.le_of_ble_eq_true hI
    rw [hc] at hn; omega
  · rw [lk_cons] at ht
    split at ht
    · rename_i h
      subst h
      cases ht
      obtain ⟨h1, _⟩ := hs.tm t (.iface T (.slice A n c)) (by rw [lk_cons, if_pos rfl])
      refine ⟨?_, NB.slice List.mem_cons_self⟩
      rw [h1]
      exact congrArg some (plOf_slice (upd_same _ _ _)).symm
    · rename_i h
      obtain ⟨h1, h2⟩ := hs.tm t' v (by rw [lk_cons, if_neg h]; exact ht)
      exact ⟨by rw [h1, h2 _ _ hag], h2.mono fun n hn => List.mem_cons_of_mem _ hn⟩
  · rw [lk_cons] at hb
    split at hb
    · rename_i h
      subst h
      cases hb
      exact ⟨box_bkv hSL (upd_same _ _ _), List.mem_cons_self, fun v hv => allNC_spec (nb_bkQ _ _) v hv⟩
    · rw [lk_cons] at hb
      split at hb
      · rename_i h
        subst h
        cases hb
        refine ⟨?_, List.mem_cons_of_mem _ dal, fun v hv => absurd hv List.not_mem_nil⟩
        unfold BoxOK at bd ⊢
        rw [upd_other ρ _ nde]; exact bd
      · cases hb
  · rw [lk_cons] at hb
    split at hb
    · cases hb; exact absurd hw (fun h => h)
    · rw [lk_cons] at hb
      split at hb
      · cases hb; exact absurd hw (fun h => h)
      · cases hb
end Go.Proofs.YtbageimconenlaaGreat
namespace Go.Proofs.YtbageimconenlaaGreat
open Go.RowKit En
set_option linter.unusedVariables false
theorem En.SL.cut {w : World} {A : Option Addr} {n c : Nat} {l : List Bk} (h : SL w A n c 5 (bkRL l)) (hn : 0 < n) : ∃ A' c', sliced A 1 n c 5 = .slice A' (n - 1) c' ∧ ∀ w, SL w A n c 5 (bkRL l) → SL w A' (n - 1) c' 5 (bkRL (l.drop 1)) := by
  obtain ⟨b, o, rfl, _, _⟩ := h.sl.2 hn
  by_cases hc : c = 1
  · refine ⟨some ⟨b, o, none⟩, c - 1, by unfold sliced; rw [if_pos (by omega)], fun w h => ?_⟩
    have hl := h.le
    have h1 : n = 1 := by omega
    have hlen := h.sl.1
    rw [bkRL_len] at hlen
    refine ⟨⟨by rw [bkRL_len, List.length_drop]; omega, fun h9 => by omega⟩, by omega, by have := h.mx; omega⟩
  · refine ⟨some ⟨b, o + 5, none⟩, c - 1, by
      unfold sliced
      rw [if_neg (by omega)]
      show Value.slice (some (Addr.add _ _)) _ _ = _
      rw [show (1 * 5 : Nat) = 5 from rfl, add_ptr], fun w h => ?_⟩
    have hlen := h.sl.1
    have hle := h.le
    have hmx := h.mx
    obtain ⟨b', o', e, hb, hcell⟩ := h.sl.2 hn
    cases e
    have hdrop : bkRL (l.drop 1) = (bkRL l).drop 5 := by
      cases l with
      | nil => rfl
      | cons x l => rfl
    refine ⟨⟨by rw [bkRL_len, List.length_drop]; rw [bkRL_len] at hlen; omega, fun _ => ⟨b, o + 5, rfl, hb, fun i u hu => ?_⟩⟩, by omega, by omega⟩
    rw [hdrop, List.getElem?_drop] at hu
    have := hcell _ _ hu
    rw [Nat.add_assoc]; exact this
def fullF (B0 : Nat) (A : Option Addr) (n c : Nat) (l : List Bk) (p : Pl) (w : World) : Prop := BL w A n c l ∧ (∀ g, fpL A n l g → p.fp g) ∧ B0 ≤ w.heap.size
namespace En
theorem fun_bq {P : Program} {tb : (List (Nat × TI))} (hT : TbOK P tb) {f : FuncId} {fn : Func} {c : Code} (hm : P.follows .mixedOrders = true) (hf : P.funcs[f]? = some fn) (hb : fn.body = some c) {A : Option Addr} {n cp : Nat} {w : World} {l : List Bk} (h : BL w A n cp l)
    (vs args : List Value) (hvs : vs.map (rV fun _ => plD A cp n l) = args)
    (nt : Nat) (tm : List (Nat × Value)) (htm : tmOf vs 0 = tm) (hnt : vs.length + (fn.ntmps - vs.length) = nt) (hd : dcode nt c = true) (hnb : allN1 [0] vs = true) (htu : noTup vs = true)
    (T : Nat → Value → St → Prop) (hac : ∀ B0, AC P tb 1 c ⟨tm, [(0, .deep (fullF B0 A n cp l))], [0], nt⟩ (FQ tb fn.results.toList (T B0))) :
    Calls P f args.toArray w (fun e w' => ∃ v s ρ a, T w.heap.size v s ∧ e = .returned (rV ρ v) ∧ Sat ⟨w.heap.size, w, fun _ => plD A cp n l, 1⟩ ρ s a w') := by
  have := fun_fin hT (I := 1) hm hf hb vs [(0, .deep (fullF w.heap.size A n cp l))] (fun _ => plD A cp n l) w nt tm htm hnt hd [0] rfl hnb htu (fun m b hmb => by
    rw [lk_cons] at hmb
    split at hmb
    · rename_i e
      subst e
      cases hmb
      exact ⟨by omega, ⟨fun g hg => h.blk_lt hg, fun w' hs hk => ⟨h.frame hs hk, fun g hg => hg, hs⟩⟩, fun v hv => absurd hv List.not_mem_nil, fun hw => hw⟩
    · cases hmb) (T w.heap.size) (hac _)
  rw [hvs] at this
  exact this
end En
end Go.Proofs.YtbageimconenlaaGreat
