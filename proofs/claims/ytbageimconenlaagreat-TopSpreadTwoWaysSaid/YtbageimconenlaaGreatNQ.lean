/- The spread: the clock moves on. -/
import Derived.Test.YtbageimconenlaaGreatNP
namespace Go.Proofs.YtbageimconenlaaGreat
open Go.RowKit En
set_option linter.unusedVariables false
theorem ent112 : Enters Tryz.prog 112 := enters Tryz.func112 (by kernel_rfl) (by kernel_rfl)
theorem ent204 : Enters Tryz.prog 204 := enters Tryz.func204 (by kernel_rfl) (by kernel_rfl)
set_option maxRecDepth 100000 in
set_option maxHeartbeats 1000000 in
theorem nS_adv (l : List Mk) (n : Nat) (w0 k cap now sq u : Int) (hl : l.length = n) (hn : n ≤ 1000) (h1 : 1 ≤ w0) (h2 : w0 ≤ 1048576) (h3 : 1 ≤ k) (h4 : k ≤ 64) (h5 : 1 ≤ cap) (h6 : cap ≤ 65536) (h7 : 0 ≤ now) (h8 : now ≤ u) (h9 : u ≤ 16777216) (hv : MVL l sq cap now w0 (-4096)) (hcl : ∀ (i : Nat) (a b : Mk), l[i]? = some a → l[i + 2]? = some b → closeB k a b = false) (w : World) (A : Option Addr) (c : Nat) (h : SL w A n c 7 (mkL l)) :
    Calls Tryz.prog 152 #[.agg #[.int .i64 w0, .int .i64 k, .int .i64 cap, .int .i64 now, .int .i64 sq, .slice A n c], .int .i64 u] w (fun e w' => ∃ A' c', e = .returned (.tuple #[.agg #[.int .i64 w0, .int .i64 k, .int .i64 cap, .int .i64 u, .int .i64 sq, .slice A' (advM u w0 l).length c'], .int .i64 0]) ∧ OwnK w' w.heap.size 203 7 (.slice A' (advM u w0 l).length c') (advM u w0 l).length (mkL (advM u w0 l)) ∧ Below w.heap.size w w') := by
  have hT : ∀ m ∈ l, 0 ≤ m.t ∧ m.t ≤ u := fun m hm => by
    obtain ⟨i, hi, e⟩ := List.mem_iff_getElem.1 hm
    have := hv.one i m (by rw [List.getElem?_eq_getElem hi, e])
    exact ⟨this.a5, by have := this.a6; omega⟩
  have H := fun_slice tblOK mixedP Tryz.func152 rfl (fun s => [.agg #[.int .i64 w0, .int .i64 k, .int .i64 cap, .int .i64 now, .int .i64 sq, s], .int .i64 u]) n 7 (mkL l) h (by decide) (allFC_mk l) [.agg #[.int .i64 w0, .int .i64 k, .int .i64 cap, .int .i64 now, .int .i64 sq, .slice (some ⟨0, 0, none⟩) n 0], .int .i64 u] rfl (fun _ => rfl) 36 [(0, .agg #[.int .i64 w0, .int .i64 k, .int .i64 cap, .int .i64 now, .int .i64 sq, .slice (some ⟨0, 0, none⟩) n 0]), (1, .int .i64 u)] rfl rfl (by kernel_rfl) rfl rfl (fun v st => v = .tuple #[.agg #[.int .i64 w0, .int .i64 k, .int .i64 cap, .int .i64 u, .int .i64 sq, .slice (some ⟨5, 0, none⟩) (advM u w0 l).length 0], .int .i64 0] ∧ En.lk st.σ 5 = some (.vec 203 7 (mkL (advM u w0 l)))) (by
    repeat' (first
      | refine AR.auto rfl ?_
      | refine AR.man (AOk.callS (fun s => [.agg #[.int .i64 w0, .int .i64 k, .int .i64 cap, .int .i64 now, .int .i64 sq, s]]) 0 n 7 (mkL l) (fun w A c h => nS_valid l n w0 k cap now sq hl hn h1 h2 h3 h4 h5 h6 h7 (by omega) hv hcl w A c h) ent112 rfl rfl rfl (fun _ => rfl) rfl (fun _ _ h => h) (by decide) (by rw [mkL_len, hl]) (allFC_mk l) rfl rfl) rfl rfl rfl ?_
      | refine AR.man (ok_nc_adv (now := now) (u := u) h7 h8 h9 rfl rfl rfl) rfl rfl rfl ?_
      | refine AR.man (AOk.callO (fun s => s) 5 (advM u w0 l).length 7 203 (mkL (advM u w0 l)) (σ := [(0, .view 7 (mkL l))]) (fun B ρ w hB hbx => by obtain ⟨A, c, e1, e2⟩ := box_SL (hbx 0 _ List.mem_cons_self) (fun _ _ h => h) (by decide) (show (mkL l).length = n * 7 by rw [mkL_len, hl]) (allFC_mk l) rfl; exact (show ([.slice (some ⟨0, 0, none⟩) n 0, Value.int .i64 u, .int .i64 w0].map (rV ρ)) = [.slice A n c, .int .i64 u, .int .i64 w0] by rw [List.map_cons, show rV ρ (.slice (some ⟨0, 0, none⟩) n 0) = .slice A n c from e1]; rfl) ▸ nm_adv l n u w0 hl hn (by omega) h9 h1 h2 hT w A c e2) ent204 rfl rfl rfl (fun n b h => by simp at h; obtain ⟨rfl, rfl⟩ := h; rfl) rfl (fun _ => rfl) rfl (allFC_mk _)) rfl rfl rfl ?_
      | refine AR.nil ?_
      | refine KF.mk ?_
      | refine KT.mk (by kernel_rfl) ?_
      | refine SQ.normal ?_
      | refine AC.seq ?_
      | refine AC.regF ?_
      | refine AC.regT ?_
      | refine AC.condT rfl ?_
      | refine AC.condF rfl ?_
      | refine AC.block ?_
      | refine BQ.normal ?_
      | refine BQ.ret ?_
      | refine BQ.here ?_
      | refine BQ.there rfl ?_
      | refine SQ.ret ?_
      | refine SQ.exit ?_
      | refine AC.ret ?_
      | refine AC.exit ?_
      | refine AC.skip ?_
      | (refine AR.split rfl (fun h => ?_) (fun h => ?_) <;> rw [h])
      | (refine AC.cond rfl (fun h => ?_) (fun h => ?_) <;> rw [h])
      | refine FQ.ret rfl rfl ?_
      | refine FQ.normal rfl rfl ?_)
    all_goals exact ⟨rfl, rfl⟩)
  refine H.mono fun e w' he => ?_
  obtain ⟨v, st, ρ, a, ⟨rfl, hq⟩, rfl, hs⟩ := he
  obtain ⟨A', c', h10, h11⟩ := vec_own (n := (advM u w0 l).length) (hs.bx _ _ hq).1 (by rw [mkL_len]) (by decide) (allFC_mk _)
  have e9 : rV ρ (.tuple #[.agg #[.int .i64 w0, .int .i64 k, .int .i64 cap, .int .i64 u, .int .i64 sq, .slice (some ⟨5, 0, none⟩) (advM u w0 l).length 0], .int .i64 0]) = .tuple #[.agg #[.int .i64 w0, .int .i64 k, .int .i64 cap, .int .i64 u, .int .i64 sq, (rC ρ (.slice (some ⟨5, 0, none⟩) (advM u w0 l).length 0))], .int .i64 0] := rfl
  exact ⟨A', c', by rw [e9, h10], h11, hs.bl⟩
end Go.Proofs.YtbageimconenlaaGreat
