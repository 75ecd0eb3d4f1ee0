/- The spread: made; valid. -/
import Derived.Test.YtbageimconenlaaGreatNM
namespace Go.Proofs.YtbageimconenlaaGreat
open Go.RowKit En
set_option linter.unusedVariables false
set_option maxRecDepth 100000 in
theorem nS_new (w0 k cap now : Int) (h1 : 1 ≤ w0) (h2 : w0 ≤ 1048576) (h3 : 1 ≤ k) (h4 : k ≤ 64) (h5 : 1 ≤ cap) (h6 : cap ≤ 65536) (h7 : 0 ≤ now) (h8 : now ≤ 16777216) (w : World) : Calls Tryz.prog 32 #[.int .i64 w0, .int .i64 k, .int .i64 cap, .int .i64 now] w (fun e w' => e = .returned (.tuple #[.agg #[.int .i64 w0, .int .i64 k, .int .i64 cap, .int .i64 now, .int .i64 0, .slice none 0 0], .int .i64 0]) ∧ Below w.heap.size w w') := by
  refine fun_flat tblOK mixedP Tryz.func32 rfl [.int .i64 w0, .int .i64 k, .int .i64 cap, .int .i64 now] w 22 [(0, .int .i64 w0), (1, .int .i64 k), (2, .int .i64 cap), (3, .int .i64 now)] rfl rfl (by kernel_rfl) rfl rfl rfl _ rfl ?_
  repeat' (first
    | refine AR.auto rfl ?_
    | refine AR.man (ok_nm_good h1 h2 h3 h4 h5 h6 h7 h8 rfl rfl rfl) rfl rfl rfl ?_
    | refine AR.nil ?_
    | refine KF.mk ?_
    | refine KT.mk (by kernel_rfl) ?_
    | refine SQ.normal ?_
    | refine AC.seq ?_
    | refine AC.regF ?_
    | refine AC.regT ?_
    | refine AC.condT rfl ?_
    | refine AC.condF rfl ?_
    | refine AC.block ?_
    | refine BQ.normal ?_
    | refine BQ.ret ?_
    | refine BQ.here ?_
    | refine BQ.there rfl ?_
    | refine SQ.ret ?_
    | refine SQ.exit ?_
    | refine AC.ret ?_
    | refine AC.exit ?_
    | refine AC.skip ?_
    | (refine AR.split rfl (fun h => ?_) (fun h => ?_) <;> rw [h])
    | (refine AC.cond rfl (fun h => ?_) (fun h => ?_) <;> rw [h])
    | refine FQ.ret rfl rfl ?_
    | refine FQ.normal rfl rfl ?_)
  rfl
theorem ent32 : Enters Tryz.prog 32 := enters Tryz.func32 (by kernel_rfl) (by kernel_rfl)
theorem ok_nS_new {w0 k cap now : Int} (h1 : 1 ≤ w0) (h2 : w0 ≤ 1048576) (h3 : 1 ≤ k) (h4 : k ≤ 64) (h5 : 1 ≤ cap) (h6 : cap ≤ 65536) (h7 : 0 ≤ now) (h8 : now ≤ 16777216) {st : St} {o : Oper} {cl : Call} (ho : o.op = .call cl) (hc : cl.callee = .value (.func 32)) (hargs : evs st cl.args.toList = some [.int .i64 w0, .int .i64 k, .int .i64 cap, .int .i64 now]) : AOk Tryz.prog st o ⟨rq st cl.args.toList, []⟩ ⟨.tuple #[.agg #[.int .i64 w0, .int .i64 k, .int .i64 cap, .int .i64 now, .int .i64 0, .slice none 0 0], .int .i64 0], [], []⟩ :=
  AOk.call (fun w => nS_new w0 k cap now h1 h2 h3 h4 h5 h6 h7 h8 w) ent32 ho hc hargs rfl rfl
theorem ent178 : Enters Tryz.prog 178 := enters Tryz.func178 (by kernel_rfl) (by kernel_rfl)
set_option maxRecDepth 100000 in
set_option maxHeartbeats 4000000 in
theorem nS_valid (l : List Mk) (n : Nat) (w0 k cap now sq : Int) (hl : l.length = n) (hn : n ≤ 1000) (h1 : 1 ≤ w0) (h2 : w0 ≤ 1048576) (h3 : 1 ≤ k) (h4 : k ≤ 64) (h5 : 1 ≤ cap) (h6 : cap ≤ 65536) (h7 : 0 ≤ now) (h8 : now ≤ 16777216) (hv : MVL l sq cap now w0 (-4096)) (hcl : ∀ (i : Nat) (a b : Mk), l[i]? = some a → l[i + 2]? = some b → closeB k a b = false) (w : World) (A : Option Addr) (c : Nat) (h : SL w A n c 7 (mkL l)) :
    Calls Tryz.prog 112 #[.agg #[.int .i64 w0, .int .i64 k, .int .i64 cap, .int .i64 now, .int .i64 sq, .slice A n c]] w (fun e w' => e = .returned (.int .i64 0) ∧ Below w.heap.size w w') := by
  refine fun_sliceF tblOK mixedP Tryz.func112 rfl (fun s => [.agg #[.int .i64 w0, .int .i64 k, .int .i64 cap, .int .i64 now, .int .i64 sq, s]]) n 7 (mkL l) h (by decide) (allFC_mk l) [.agg #[.int .i64 w0, .int .i64 k, .int .i64 cap, .int .i64 now, .int .i64 sq, .slice (some ⟨0, 0, none⟩) n 0]] rfl (fun _ => rfl) 49 [(0, .agg #[.int .i64 w0, .int .i64 k, .int .i64 cap, .int .i64 now, .int .i64 sq, .slice (some ⟨0, 0, none⟩) n 0])] rfl rfl (by kernel_rfl) rfl rfl _ rfl ?_
  repeat' (first
    | refine AR.auto rfl ?_
    | refine AR.man (ok_nm_good h1 h2 h3 h4 h5 h6 h7 h8 rfl rfl rfl) rfl rfl rfl ?_
    | refine AR.man (AOk.callS (fun s => [s, .int .i64 sq, .int .i64 cap, .int .i64 now, .int .i64 w0, .int .i64 (-4096)]) 0 n 7 (mkL l) (fun w A c h => nm_valid l n sq cap now w0 (-4096) hl hn h7 h8 h1 h2 hv w A c h) ent178 rfl rfl rfl (fun _ => rfl) rfl (fun _ _ h => h) (by decide) (by rw [mkL_len, hl]) (allFC_mk l) rfl rfl) rfl rfl rfl ?_
    | refine AR.nil ?_
    | refine KF.mk ?_
    | refine KT.mk (by kernel_rfl) ?_
    | refine SQ.normal ?_
    | refine AC.seq ?_
    | refine AC.regF ?_
    | refine AC.regT ?_
    | refine AC.condT rfl ?_
    | refine AC.condF rfl ?_
    | refine AC.block ?_
    | refine BQ.normal ?_
    | refine BQ.ret ?_
    | refine BQ.here ?_
    | refine BQ.there rfl ?_
    | refine SQ.ret ?_
    | refine SQ.exit ?_
    | refine AC.ret ?_
    | refine AC.exit ?_
    | refine AC.skip ?_
    | (refine AR.split rfl (fun h => ?_) (fun h => ?_) <;> rw [h])
    | (refine AC.cond rfl (fun h => ?_) (fun h => ?_) <;> rw [h])
    | refine FQ.ret rfl rfl ?_
    | refine FQ.normal rfl rfl ?_)
  refine AC.loop (fun m st => ∃ i : Nat, m = n + 2 - i ∧ 2 ≤ i ∧ i ≤ n + 2 ∧ st = ⟨[(3, .int .i64 (i : Nat)), (1, .pointer (some ⟨1, 0, none⟩))], [(1, .row 38 [.int .i64 w0, .int .i64 k, .int .i64 cap, .int .i64 now, .int .i64 sq, .slice (some ⟨0, 0, none⟩) n 0]), (0, .view 7 (mkL l))], [1, 0], 49⟩) n _ ?_ ⟨2, by omega, Nat.le_refl _, by omega, rfl⟩ ?_
  · exact Ren.mv (tabF []) rfl (fun k hk => by match k, hk with | 0, _ => exact ⟨rfl, rfl⟩) ⟨⟨rfl, rfl⟩, ⟨rfl, rfl⟩, trivial⟩ ⟨⟨rfl, rfl, rfl⟩, ⟨by rw [mv_mkv]; rfl, rfl, allNC_mk _ _⟩, trivial⟩ rfl
  intro m st hi
  obtain ⟨i, rfl, hi2, hin, rfl⟩ := hi
  by_cases hlt : i < n
  · have hd : decide ((i : Int) < (n : Int)) = true := by simp only [decide_eq_true_eq]; omega
    obtain ⟨a, ha⟩ : ∃ a, l[i - 2]? = some a := ⟨l[i - 2]'(by omega), List.getElem?_eq_getElem (by omega)⟩
    obtain ⟨b, hb⟩ : ∃ b, l[i]? = some b := ⟨l[i]'(by omega), List.getElem?_eq_getElem (by omega)⟩
    have hc0 := hcl (i - 2) a b ha (by rw [show i - 2 + 2 = i by omega]; exact hb)
    have w5 : IntKind.i64.wrap ((i : Int) - 2) = ((i - 2 : Nat) : Int) := by rw [IntWalk.i64_in _ (by omega)]; omega
    have w4 : IntKind.i64.wrap ((i : Int) + 1) = ((i + 1 : Nat) : Int) := by rw [IntWalk.i64_in _ (by omega)]; rfl
    repeat' (first
      | rw [hd]
      | rw [hc0]
      | rw [w5]
      | rw [w4]
      | refine AR.auto rfl ?_
      | refine AR.man (okm_idx (A0 := 0) (i := i - 2) rfl rfl rfl rfl (nonE_mkv 7 (by omega)) (by omega)) rfl rfl rfl ?_
      | refine AR.man (okm_idx (A0 := 0) (i := i) rfl rfl rfl rfl (nonE_mkv 7 (by omega)) hlt) rfl rfl rfl ?_
      | refine AR.man (okm_ld (m := a) rfl rfl rfl (fun jj u hu => by rw [Nat.zero_add, show (Box.view 7 (mkL l)).cells = mkL l from rfl, mkL_at l (i - 2) jj a ha (by have := (List.getElem?_eq_some_iff.1 hu).1; simpa [mkC] using this)]; exact hu)) rfl rfl rfl ?_
      | refine AR.man (okm_ld (m := b) rfl rfl rfl (fun jj u hu => by rw [Nat.zero_add, show (Box.view 7 (mkL l)).cells = mkL l from rfl, mkL_at l i jj b hb (by have := (List.getElem?_eq_some_iff.1 hu).1; simpa [mkC] using this)]; exact hu)) rfl rfl rfl ?_
      | refine AR.man (ok_ns_close (a := a) (b := b) (k := k) (hv.one _ a ha).ok (hv.one _ b hb).ok h3 h4 rfl rfl rfl) rfl rfl rfl ?_
      | refine AR.nil ?_
      | refine KF.mk ?_
      | refine KT.mk (by kernel_rfl) ?_
      | refine SQ.normal ?_
      | refine AC.seq ?_
      | refine AC.regF ?_
      | refine AC.regT ?_
      | refine AC.condT rfl ?_
      | refine AC.condF rfl ?_
      | refine AC.block ?_
      | refine BQ.normal ?_
      | refine BQ.ret ?_
      | refine BQ.here ?_
      | refine BQ.there rfl ?_
      | refine SQ.ret ?_
      | refine SQ.exit ?_
      | refine AC.ret ?_
      | refine AC.exit ?_
      | refine AC.skip ?_
      | (refine AR.split rfl (fun h => ?_) (fun h => ?_) <;> rw [h])
      | (refine AC.cond rfl (fun h => ?_) (fun h => ?_) <;> rw [h])
      | refine FQ.ret rfl rfl ?_
      | refine FQ.normal rfl rfl ?_)
    refine ⟨n + 2 - (i + 1), _, by omega, ?_, i + 1, rfl, by omega, by omega, rfl⟩
    exact Ren.mv (tabF []) rfl (fun k hk => by match k, hk with | 0, _ => exact ⟨rfl, rfl⟩) ⟨⟨rfl, rfl⟩, ⟨rfl, rfl⟩, trivial⟩ ⟨⟨rfl, rfl, rfl⟩, ⟨by rw [mv_mkv]; rfl, rfl, allNC_mk _ _⟩, trivial⟩ rfl
  · have hd : decide ((i : Int) < (n : Int)) = false := by simp only [decide_eq_false_iff_not]; omega
    repeat' (first
      | rw [hd]
      | refine AR.auto rfl ?_
      | refine AR.nil ?_
      | refine KF.mk ?_
      | refine KT.mk (by kernel_rfl) ?_
      | refine SQ.normal ?_
      | refine AC.seq ?_
      | refine AC.regF ?_
      | refine AC.regT ?_
      | refine AC.condT rfl ?_
      | refine AC.condF rfl ?_
      | refine AC.block ?_
      | refine BQ.normal ?_
      | refine BQ.ret ?_
      | refine BQ.here ?_
      | refine BQ.there rfl ?_
      | refine SQ.ret ?_
      | refine SQ.exit ?_
      | refine AC.ret ?_
      | refine AC.exit ?_
      | refine AC.skip ?_
      | (refine AR.split rfl (fun h => ?_) (fun h => ?_) <;> rw [h])
      | (refine AC.cond rfl (fun h => ?_) (fun h => ?_) <;> rw [h])
      | refine FQ.ret rfl rfl ?_
      | refine FQ.normal rfl rfl ?_)
    rfl
end Go.Proofs.YtbageimconenlaaGreat
