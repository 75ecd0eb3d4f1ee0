/- The state of the samples after some items, in plain words: every head is one of the last values. Plain. -/
import Derived.Test.YtbageimconenlaaGreatSa
import Derived.Test.YtbageimconenlaaGreatSd
namespace Go.Proofs.YtbageimconenlaaGreat
open Go.RowKit
set_option linter.unusedVariables false
/-- n chains after the values vals -/
structure StI (W : Int) (n : Nat) (vals : List Int) (cs : List Ch) : Prop where
  len : cs.length = n
  all : ∀ c ∈ cs, VCh W 64 c ∧ Came vals c
theorem StI.vcs {W : Int} {n : Nat} {vals : List Int} {cs : List Ch} (h : StI W n vals cs) (h1 : 1 ≤ n) (h2 : n ≤ 16) : VCs W 64 vals.length cs :=
  ⟨by rw [h.len]; exact h1, by rw [h.len]; exact h2, fun c hc => ⟨(h.all c hc).1, (h.all c hc).2.n⟩⟩
theorem StI.next {W v : Int} {n : Nat} {vals ds : List Int} {cs cs' : List Ch} (h : StI W n vals cs) (hv : -4096 ≤ v ∧ v ≤ 4096) (hn : (vals.length : Int) < 1099511627776) (hs : sampM W 64 v cs ds = .ok cs' []) : StI W n (vals ++ [v]) cs' := by
  obtain ⟨h1, h2⟩ := sampM_valid hv hn cs cs' ds [] h.all hs
  exact ⟨h1.trans h.len, h2⟩
theorem vch0 {W : Int} (h1 : 1 ≤ W) (h2 : W ≤ 1048576) : VCh W 64 ch0 :=
  ⟨h1, h2, by omega, by omega, by simp [ch0], by simp [ch0], by simp [ch0], fun _ => ⟨rfl, rfl⟩, fun h => by simp [ch0] at h, fun j p h => by simp [ch0] at h, fun j p q h => by simp [ch0] at h, fun p h => by simp [ch0] at h⟩
theorem StI.start {W : Int} (n : Nat) (h1 : 1 ≤ W) (h2 : W ≤ 1048576) : StI W n [] (List.replicate n ch0) :=
  ⟨List.length_replicate, fun c hc => by rw [(List.mem_replicate.1 hc).2]; exact ⟨vch0 h1 h2, ⟨rfl, fun p hp => by simp [ch0] at hp⟩⟩⟩
/-- what the law asks of a value: it is one of those with the numbers from lo on, below k -/
def InM (vals : List Int) (lo k : Nat) (u : Int) : Prop := ∃ j, lo ≤ j ∧ j < k ∧ vals[j]? = some u
theorem InM.none_ {vals : List Int} {k : Nat} {u : Int} : ¬ InM vals k k u := fun ⟨j, h1, h2, _⟩ => by omega
theorem InM.more {vals : List Int} {lo k : Nat} {u : Int} (h : InM vals lo k u) : InM vals lo (k + 1) u := by
  obtain ⟨j, h1, h2, h3⟩ := h
  exact ⟨j, h1, by omega, h3⟩
theorem InM.here {vals : List Int} {lo k : Nat} {u : Int} (h : vals[k]? = some u) (hk : lo ≤ k) : InM vals lo (k + 1) u := ⟨k, hk, by omega, h⟩
theorem InM.no {vals : List Int} {lo k : Nat} {u v : Int} (h : ¬ InM vals lo k u) (hv : vals[k]? = some v) (hne : v ≠ u) : ¬ InM vals lo (k + 1) u := by
  rintro ⟨j, h1, h2, h3⟩
  by_cases hj : j = k
  · subst hj
    rw [hv] at h3
    exact hne (Option.some.inj h3)
  · exact h ⟨j, h1, by omega, h3⟩
theorem StI.head {W : Int} {n : Nat} {vals : List Int} {cs : List Ch} (h : StI W n vals cs) (hp : 0 < vals.length) {c : Ch} (hc : c ∈ cs) {lo : Nat} (hlo : lo = 0 ∨ (lo : Int) + W ≤ (vals.length : Int)) : InM vals lo vals.length (headV c) := by
  obtain ⟨hV, hC⟩ := h.all c hc
  have hn := hC.n
  have hne := hV.pos (by omega)
  cases e : c.ls with
  | nil => exact absurd e hne
  | cons p t =>
    have h0 : c.ls[0]? = some p := by rw [e]; rfl
    have h1 := hV.el 0 p h0
    have h2 := hC.v p (by rw [e]; exact List.mem_cons_self ..)
    refine ⟨(p.1 - 1).toNat, ?_, by omega, ?_⟩
    · rcases hlo with h3 | h3
      · omega
      · omega
    · rw [h2]; unfold headV; rw [e]
/-- how many draws are enough: after each of them either another one is needed or all is done -/
theorem StI.none_ {W v : Int} {n : Nat} {vals : List Int} {cs : List Ch} (h : StI W n vals cs) (hW : W < 64) : Next1S (sampM W 64 v cs []) := sampM_none hW cs (fun c hc => (h.all c hc).1)
theorem StI.need {W v m : Int} {n : Nat} {vals ds : List Int} {cs : List Ch} (h : StI W n vals cs) (hW : W < 64) (hn : sampM W 64 v cs ds = .need m) : 1 ≤ m ∧ ds.length < 2 * n ∧ ∀ d, 0 ≤ d → d < m → Next1S (sampM W 64 v cs (ds ++ [d])) := by
  have := sampM_need hW cs ds m (fun c hc => (h.all c hc).1) hn
  rw [h.len] at this
  exact this
theorem Next1S.bad {o : OutS} (h : Next1S o) : o ≠ .bad := by
  rintro rfl
  rcases h with ⟨m, h⟩ | ⟨cs, h⟩ <;> cases h
end Go.Proofs.YtbageimconenlaaGreat
