/- Lists of blocks: valid ones. -/
import Derived.Test.YtbageimconenlaaGreatQC
namespace Go.Proofs.YtbageimconenlaaGreat
open Go.RowKit En
set_option linter.unusedVariables false
theorem en_cell {w : World} {A : Option Addr} {vs : List Int} {c g off i : Nat} {u : Int} (h : SL w A vs.length c 3 (enL 0 vs)) (hA : A = some ⟨g, off, none⟩) (hu : vs[i]? = some u) : w.cell? ⟨g, off + i * 3, none⟩ = some (.int .i64 u) := by
  subst hA
  have hi : i < vs.length := (List.getElem?_eq_some_iff.1 hu).1
  obtain ⟨b, o, e, _, hc⟩ := h.sl.2 (by omega)
  cases e
  have := enL_at vs 0 i 0 u hu (by decide)
  exact hc (i * 3) _ (by rw [Nat.add_zero] at this; rw [this]; rfl)
theorem BL.addr {w : World} {A : Option Addr} {n c : Nat} {l : List Bk} (h : BL w A n c l) {x : Bk} (hx : x ∈ l) (h0 : 0 < x.e.vs.length) : ∃ g off, x.A = some ⟨g, off, none⟩ := by
  obtain ⟨b, o, e, _⟩ := (h.es x hx).sl.2 h0
  exact ⟨b, o, e⟩
set_option maxRecDepth 100000 in
set_option maxHeartbeats 1000000 in
theorem qd_valid (l : List Bk) (n k : Nat) (b : Int) (hn : n ≤ 900) (k1 : 1 ≤ k) (k2 : k ≤ 128) (b1 : 1 ≤ b) (b2 : b ≤ 65536) (hd : DB (l.map Bk.e) k b) (w : World) (A : Option Addr) (c : Nat) (h : BL w A n c l) :
    Calls Tryz.prog 182 #[.slice A n c, .int .i64 ((k : Nat)), .int .i64 b] w (fun e w' => e = .returned (.bool true) ∧ Below w.heap.size w w') := by
  have hl := h.len
  have d1 : decide (b < 1) = false := by simp only [decide_eq_false_iff_not]; omega
  have d2 : decide (b > 65536) = false := by simp only [decide_eq_false_iff_not]; omega
  have w1 : IntKind.i64.wrap (b + 1) = b + 1 := IntWalk.i64_in _ (by omega)
  refine (fun_bl tblOK mixedP Tryz.func182 rfl (fun s => [s, .int .i64 ((k : Nat)), .int .i64 b]) h [.slice (some ⟨0, 0, none⟩) n 0, .int .i64 ((k : Nat)), .int .i64 b] rfl (fun _ => rfl) 96 [(0, .slice (some ⟨0, 0, none⟩) n 0), (1, .int .i64 ((k : Nat))), (2, .int .i64 b)] rfl rfl (by kernel_rfl) rfl rfl (fun u st => u = .bool true) (by
    repeat' (first | rw [d1] | rw [d2] | refine AR.auto rfl ?_ | refine AR.man (AOk.callBLO (fun s => [s]) 0 1 n l (fun s => s) 41 n 2 262 (buL (l.map Bk.e)) (fun w A c h => qb_plain l n hn w A c h) ent183 rfl rfl rfl (fun _ => rfl) rfl rfl rfl rfl hl rfl (fun _ => rfl) rfl (allFC_bu _)) rfl rfl rfl ?_ | refine AR.man (AOk.callS (fun s => [s, .int .i64 ((k : Nat))]) 41 n 2 (buL (l.map Bk.e)) (fun w A c h => qc_buckets (l.map Bk.e) n k (by simp [hl]) hn k1 k2 hd.vb w A c h) ent174 rfl rfl rfl (fun _ => rfl) rfl (fun _ _ h => h) (by decide) (by rw [buL_len]; simp [hl]) (allFC_bu _) rfl rfl) rfl rfl rfl ?_ | refine AR.nil ?_ | refine KF.mk ?_ | refine KT.mk (by kernel_rfl) ?_ | refine SQ.normal ?_ | refine AC.seq ?_ | refine AC.regF ?_ | refine AC.regT ?_ | refine AC.condT rfl ?_ | refine AC.condF rfl ?_ | refine AC.block ?_ | refine BQ.normal ?_ | refine BQ.ret ?_ | refine BQ.here ?_ | refine BQ.there rfl ?_ | refine SQ.ret ?_ | refine SQ.exit ?_ | refine AC.ret ?_ | refine AC.exit ?_ | refine AC.skip ?_ | (refine AR.split rfl (fun h => ?_) (fun h => ?_) <;> rw [h]) | (refine AC.cond rfl (fun h => ?_) (fun h => ?_) <;> rw [h]) | refine FQ.ret rfl rfl ?_ | refine FQ.normal rfl rfl ?_)
    refine AC.loop (fun p st => ∃ i : Nat, p = n - i ∧ i ≤ n ∧ st = ⟨[(27, .int .i64 (i : Nat)), (26, .int .i64 (n : Nat)), (25, .slice (some ⟨0, 0, none⟩) n 0), (2, .int .i64 b)], [(0, .view 5 (bkQL l)), (1, .deep (entF l))], [1, 0], 96⟩) n _ ?_ ⟨0, rfl, Nat.zero_le _, rfl⟩ ?_
    · exact Ren.mv (tabF []) rfl (fun k hk => by match k, hk with | 0, _ => exact ⟨rfl, rfl⟩ | 1, _ => exact ⟨rfl, rfl⟩) ⟨⟨rfl, rfl⟩, ⟨rfl, rfl⟩, ⟨rfl, rfl⟩, ⟨rfl, rfl⟩, trivial⟩ ⟨⟨by rw [mv_bkv]; rfl, rfl, nb_bkQ _ _⟩, ⟨rfl, rfl, rfl⟩, trivial⟩ rfl
    intro p st hi
    obtain ⟨i, rfl, hin, rfl⟩ := hi
    by_cases hlt : i < n
    · have hdd : decide ((i : Int) < (n : Int)) = true := by simp only [decide_eq_true_eq]; omega
      have w4 : IntKind.i64.wrap ((i : Int) + 1) = ((i + 1 : Nat) : Int) := by rw [IntWalk.i64_in _ (by omega)]; rfl
      obtain ⟨x, hx⟩ : ∃ x, l[i]? = some x := ⟨l[i]'(by omega), List.getElem?_eq_getElem (by omega)⟩
      have hxl := List.mem_of_getElem? hx
      have hxe : x.e ∈ l.map Bk.e := List.mem_map_of_mem hxl
      have ho := hd.ok _ hxe
      have hlv := (hd.vb.rng _ hxe).2
      have hfit := hd.fit _ hxe
      have hN : x.e.vs.length ≤ 900 := by rw [ho.len]; exact Nat.le_trans (pow_le_tot hxe) hd.tot
      have hN0 : 0 < x.e.vs.length := by rw [ho.len]; exact Nat.two_pow_pos _
      have u1 : IntKind.u64.wrap ((x.e.lv : Nat) : Int) = ((x.e.lv : Nat) : Int) := by rw [wu64]; omega
      have hsh := shl1 hlv
      have z1 : (((x.e.vs.length : Nat) : Int) != ((2 ^ x.e.lv : Nat) : Int)) = false := by rw [ho.len]; simp
      have z2 : decide (((x.e.vs.length : Nat) : Int) > b + 1) = false := by rw [ho.len]; simp only [decide_eq_false_iff_not]; omega
      obtain ⟨g, off, hA⟩ := h.addr hxl hN0
      obtain ⟨v0, hv0⟩ : ∃ v, x.e.vs[0]? = some v := ⟨_, List.getElem?_eq_getElem hN0⟩
      obtain ⟨v1, hv1⟩ : ∃ v, x.e.vs[x.e.vs.length - 1]? = some v := ⟨_, List.getElem?_eq_getElem (by omega)⟩
      obtain ⟨j, hj⟩ := List.mem_iff_getElem?.1 ho.last
      have hjl := (List.getElem?_eq_some_iff.1 hj).1
      have r0 := asc_at ho.asc hv0 hj (Nat.zero_le _)
      have r1 := asc_at ho.asc hj hv1 (by omega)
      have g0 := ho.rng _ (List.mem_of_getElem? hv0)
      have g1 := ho.rng _ (List.mem_of_getElem? hv1)
      have wN : IntKind.i64.wrap (((x.e.vs.length : Nat) : Int) - 1) = ((x.e.vs.length - 1 : Nat) : Int) := by rw [IntWalk.i64_in _ (by omega)]; omega
      have z0 : ((0 : Int) != 0) = false := rfl
      have x0 : IntKind.i64.wrap ((1 : Int) - 1) = 0 := by decide
      have x1 : decide ((0 : Int) > 0) = false := rfl
      have y1 : decide (v0 < -4096) = false := by simp only [decide_eq_false_iff_not]; omega
      have y2 : decide (v1 > 4096) = false := by simp only [decide_eq_false_iff_not]; omega
      have y3 : decide (x.e.last < v0) = false := by simp only [decide_eq_false_iff_not]; omega
      have y4 : decide (x.e.last > v1) = false := by simp only [decide_eq_false_iff_not]; omega
      repeat' (first | rw [hdd] | rw [w4] | rw [w1] | rw [wN] | rw [u1] | rw [hsh] | rw [z0] | rw [x0] | rw [x1] | rw [z1] | rw [z2] | rw [y1] | rw [y2] | rw [y3] | rw [y4] | refine AR.auto rfl ?_ | refine AR.man (okb_idx (A0 := 0) (i := i) rfl rfl rfl rfl (nonE_bkv 5 (by omega)) (by omega)) rfl rfl rfl ?_ | refine AR.man (okb_ld (m := x) rfl rfl rfl (fun jj u hu => by rw [show 0 + i * 5 + jj = i * 5 + jj from (by omega), show (Box.view 5 (bkQL l)).cells = bkQL l from rfl, bkQL_at l i jj x hx (by have := (List.getElem?_eq_some_iff.1 hu).1; simpa [bkQ] using this)]; exact hu)) rfl rfl rfl ?_ | refine AR.man (AOk.callQ (fun s => [.agg #[.int .i64 ((x.e.vs.length : Nat)), s]]) 1 l x (fun w h => qf_valid x.e.vs _ rfl (by omega) ho.asc w _ _ h) ent213 rfl rfl rfl (fun _ => rfl) rfl hxl rfl) rfl rfl rfl ?_ | refine AR.man (AOk.callQ (fun s => [.agg #[.int .i64 ((x.e.vs.length : Nat)), s]]) 1 l x (fun w h => qf_gap x.e.vs _ rfl (by omega) hN0 ho.asc w _ _ h) ent214 rfl rfl rfl (fun _ => rfl) rfl hxl rfl) rfl rfl rfl ?_ | refine AR.man (okq_len rfl rfl rfl rfl rfl) rfl rfl rfl ?_ | refine AR.man (ok_qb_allowed hlv b1 b2 hfit rfl rfl rfl) rfl rfl rfl ?_ | refine AR.man (okr_idx (i := 0) hA rfl rfl rfl hN0) rfl rfl rfl ?_ | refine AR.man (okr_idx (i := x.e.vs.length - 1) hA rfl rfl rfl (by omega)) rfl rfl rfl ?_ | refine AR.man (okr_fld rfl rfl) rfl rfl rfl ?_ | refine AR.man (okr_ld (e := 1) (F := entF l) (u := v0) rfl rfl rfl (fun p w' hp => en_cell (hp x hxl).1 hA hv0)) rfl rfl rfl ?_ | refine AR.man (okr_ld (e := 1) (F := entF l) (u := v1) rfl rfl rfl (fun p w' hp => en_cell (hp x hxl).1 hA hv1)) rfl rfl rfl ?_ | refine AR.nil ?_ | refine KF.mk ?_ | refine KT.mk (by kernel_rfl) ?_ | refine SQ.normal ?_ | refine AC.seq ?_ | refine AC.regF ?_ | refine AC.regT ?_ | refine AC.condT rfl ?_ | refine AC.condF rfl ?_ | refine AC.block ?_ | refine BQ.normal ?_ | refine BQ.ret ?_ | refine BQ.here ?_ | refine BQ.there rfl ?_ | refine SQ.ret ?_ | refine SQ.exit ?_ | refine AC.ret ?_ | refine AC.exit ?_ | refine AC.skip ?_ | (refine AR.split rfl (fun h => ?_) (fun h => ?_) <;> rw [h]) | (refine AC.cond rfl (fun h => ?_) (fun h => ?_) <;> rw [h]) | refine FQ.ret rfl rfl ?_ | refine FQ.normal rfl rfl ?_)
      refine ⟨n - (i + 1), _, by omega, ?_, i + 1, rfl, by omega, rfl⟩
      exact Ren.mv (tabF []) rfl (fun k hk => by match k, hk with | 0, _ => exact ⟨rfl, rfl⟩ | 1, _ => exact ⟨rfl, rfl⟩) ⟨⟨rfl, rfl⟩, ⟨rfl, rfl⟩, ⟨rfl, rfl⟩, ⟨rfl, rfl⟩, trivial⟩ ⟨⟨by rw [mv_bkv]; rfl, rfl, nb_bkQ _ _⟩, ⟨rfl, rfl, rfl⟩, trivial⟩ rfl
    · obtain rfl : n = i := by omega
      have hdd : decide ((n : Int) < (n : Int)) = false := by simp
      repeat' (first | rw [hdd] | refine AR.auto rfl ?_ | refine AR.nil ?_ | refine KF.mk ?_ | refine KT.mk (by kernel_rfl) ?_ | refine SQ.normal ?_ | refine AC.seq ?_ | refine AC.regF ?_ | refine AC.regT ?_ | refine AC.condT rfl ?_ | refine AC.condF rfl ?_ | refine AC.block ?_ | refine BQ.normal ?_ | refine BQ.ret ?_ | refine BQ.here ?_ | refine BQ.there rfl ?_ | refine SQ.ret ?_ | refine SQ.exit ?_ | refine AC.ret ?_ | refine AC.exit ?_ | refine AC.skip ?_ | (refine AR.split rfl (fun h => ?_) (fun h => ?_) <;> rw [h]) | (refine AC.cond rfl (fun h => ?_) (fun h => ?_) <;> rw [h]) | refine FQ.ret rfl rfl ?_ | refine FQ.normal rfl rfl ?_)
      all_goals rfl)).mono fun e w' he => ?_
  obtain ⟨v, s, ρ, a, rfl, rfl, hs⟩ := he
  exact ⟨rfl, hs.bl⟩
end Go.Proofs.YtbageimconenlaaGreat
