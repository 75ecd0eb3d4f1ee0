/- Lists of marks: elements, one more, the first one less: over the program. -/
import Derived.Test.YtbageimconenlaaGreatND
import Derived.Laws.Slices
namespace Go.Proofs.YtbageimconenlaaGreat
open Go.RowKit En
set_option linter.unusedVariables false
def mkC (m : Mk) : List Value := [.int .i64 m.seq, .int .i64 m.t, .int .i64 m.n, .int .i64 m.s, .int .i64 m.q, .int .i64 m.mn, .int .i64 m.mx]
def mkL : List Mk → List Value
  | [] => []
  | m :: l => mkC m ++ mkL l
theorem mkL_len : ∀ l : List Mk, (mkL l).length = l.length * 7
  | [] => rfl
  | m :: l => by rw [mkL, List.length_append, mkL_len l]; simp [mkC]; omega
theorem mkL_append : ∀ l r : List Mk, mkL (l ++ r) = mkL l ++ mkL r
  | [], r => rfl
  | m :: l, r => by rw [List.cons_append, mkL, mkL, mkL_append l r, List.append_assoc]
theorem mkL_at : ∀ (l : List Mk) (j i : Nat) (m : Mk), l[j]? = some m → i < 7 → (mkL l)[j * 7 + i]? = (mkC m)[i]?
  | [], j, i, m, h, _ => by simp at h
  | x :: l, 0, i, m, h, hi => by
    simp at h; subst h
    rw [mkL, Nat.zero_mul, Nat.zero_add, List.getElem?_append_left (by simp [mkC]; omega)]
  | x :: l, j + 1, i, m, h, hi => by
    simp at h
    rw [mkL, List.getElem?_append_right (by simp [mkC]; omega)]
    rw [show (j + 1) * 7 + i - (mkC x).length = j * 7 + i by simp [mkC]; omega]
    exact mkL_at l j i m h hi
theorem allFC_mk (l : List Mk) : allFC (mkL l) = true := by
  induction l with
  | nil => rfl
  | cons x l ih => exact ih
theorem nonE_mkv {l : List Mk} (k : Nat) (h : 0 < l.length) : nonE (.view k (mkL l)) = true := by
  cases l with
  | nil => simp at h
  | cons x l => rfl
theorem nonE_mkr {l : List Mk} (e k : Nat) (h : 0 < l.length) : nonE (.vec e k (mkL l)) = true := by
  cases l with
  | nil => simp at h
  | cons x l => rfl
theorem info203 : (Tryz.prog.info? 203).map (fun i => (i.size, i.bytes, i.zero.map (·.cells.size))) = some (7, 56, some 7) := by kernel_rfl
theorem info203x : ∃ ie z, Tryz.prog.info? 203 = some ie ∧ ie.size = 7 ∧ ie.bytes = 56 ∧ ie.zero = some z ∧ z.cells.size = 7 := by
  have h := info203
  cases hi : Tryz.prog.info? 203 with
  | none => rw [hi] at h; cases h
  | some ie =>
    rw [hi] at h
    cases hz : ie.zero with
    | none => simp [hz] at h
    | some z =>
      simp [hz] at h
      exact ⟨ie, z, rfl, h.1, h.2.1, hz, h.2.2⟩
theorem agg203 : aggB Tryz.prog 203 = some true := by kernel_rfl
section
variable {s : St} {o : Oper} {c : Call}
theorem okm_idx {A0 off len cc i : Nat} {b : Box} {x ix : Operand} (ho : o.op = .indexAddr 34 x ix) (hx : ev s x = some (.slice (some ⟨A0, off, none⟩) len cc)) (hix : ev s ix = some (.int .i64 (i : Nat))) (hb : En.lk s.σ A0 = some b) (hnb : nonE b = true) (hi : i < len) :
    AOk Tryz.prog s o ⟨rq s [x, ix], [(A0, b)]⟩ ⟨.pointer (some ⟨A0, off + i * 7, none⟩), [], []⟩ := by
  obtain ⟨ie, z, hie, h1, _⟩ := info203x
  refine .quiet fun B => ⟨Does.index (P := Tryz.prog) (B := B) ho hx hix Tryz.underlying34 hie h1 hnb rfl hi, ⟨fun t v h => rq_in h, fun n b' h => ?_⟩, rfl, rfl⟩
  simp at h; obtain ⟨rfl, rfl⟩ := h; exact hb
/-- a whole mark -/
theorem okm_ld {A0 off : Nat} {b : Box} {x : Operand} {m : Mk} (ho : o.op = .load 203 x) (hx : ev s x = some (.pointer (some ⟨A0, off, none⟩))) (hb : En.lk s.σ A0 = some b) (hv : ∀ (i : Nat) (v : Value), (mkC m)[i]? = some v → b.cells[off + i]? = some v) :
    AOk Tryz.prog s o ⟨rq s [x], [(A0, b)]⟩ ⟨.agg (List.toArray (mkC m)), [], []⟩ := by
  obtain ⟨ie, z, hie, h1, _⟩ := info203x
  refine .quiet fun B => ⟨Does.loadRow ho hx hb agg203 hie (by rw [h1]; rfl) hv, ⟨fun t v h => rq_in h, fun n b' h => ?_⟩, rfl, rfl⟩
  simp at h; obtain ⟨rfl, rfl⟩ := h; exact hb
/-- the first one less -/
theorem okm_cut {A0 off len cc : Nat} {b : Box} {x : Operand} (ho : o.op = .slice 34 x (some (.const (.int .i64 1))) none none) (hx : ev s x = some (.slice (some ⟨A0, off, none⟩) len cc)) (hb : En.lk s.σ A0 = some b) (hnb : nonE b = true) (h1 : 1 < len) (hc : ∀ (B : Nat) (ρ : Nat → Pl) (w : World), BoxOK B ρ w A0 b → cc + len ≤ (ρ A0).cap) :
    AOk Tryz.prog s o ⟨rq s [x], [(A0, b)]⟩ ⟨.slice (some ⟨A0, off + 7, none⟩) (len - 1) (cc + 1), [], []⟩ := by
  refine .quiet fun B => ⟨Does.value (fun al hr => ?_) fun ρ a w hm => ?_, ⟨fun t v h => rq_in h, fun n b' h => ?_⟩, rfl, rfl⟩
  · exact NB.slice (hr.σ A0 b List.mem_cons_self).1
  · have hbx := hm.σ A0 b List.mem_cons_self
    have hcap := hc B ρ w hbx
    have hnil := nonE_nil hbx hnb
    have hax := ev_eval hm (x := x) (by simp) hx
    have hxr : rV ρ (.slice (some ⟨A0, off, none⟩) len cc) = .slice (some ⟨(ρ A0).b, (ρ A0).o + off, none⟩) len ((ρ A0).cap - cc) := by
      show Value.slice (bif (ρ A0).nil then (ρ A0).alt else some (rA ρ ⟨A0, off, none⟩)) len _ = _
      rw [hnil]; rfl
    have hvr : rV ρ (.slice (some ⟨A0, off + 7, none⟩) (len - 1) (cc + 1)) = .slice (some ⟨(ρ A0).b, (ρ A0).o + (off + 7), none⟩) (len - 1) ((ρ A0).cap - (cc + 1)) := by
      show Value.slice (bif (ρ A0).nil then (ρ A0).alt else some (rA ρ ⟨A0, off + 7, none⟩)) _ _ = _
      rw [hnil]; rfl
    rw [hxr] at hax
    rw [hvr]
    have hk1 : a.eval (.const (.int .i64 1)) = .int .i64 1 := rfl
    have hel : Tryz.prog.elem 34 = 203 := by kernel_rfl
    have hsz : ∀ w, (Go.sizeOf 203).run Tryz.prog w = .ok 7 w := Tryz.sizeOf203
    have hu : Tryz.prog.underlying 34 = some (.slice (Tryz.prog.elem 34)) := by rw [hel]; exact Tryz.underlying34
    unfold execOp
    simp only [ho, hax, Option.map_some, Option.map_none, hk1]
    rw [Sem.run_bind, run_sliceAt_slice (h := hu), run_slice_l (ht := hu) (kl := .i64) (l := 1) (h0 := by decide) (h1 := by omega), hel, hsz]
    have hm1 : ¬ (ρ A0).cap - cc = (1 : Int).toNat := by show ¬ (ρ A0).cap - cc = 1; omega
    simp only [Result.andThen_ok, sliced, if_neg hm1, Option.map_some]
    have e1 : len - (1 : Int).toNat = len - 1 := rfl
    have e2 : (ρ A0).cap - cc - (1 : Int).toNat = (ρ A0).cap - (cc + 1) := by show (ρ A0).cap - cc - 1 = _; omega
    rw [e1, e2]
    have e3 : Addr.add ⟨(ρ A0).b, (ρ A0).o + off, none⟩ ((1 : Int).toNat * 7) = ⟨(ρ A0).b, (ρ A0).o + (off + 7), none⟩ := by
      show (if (7 : Nat) = 0 then _ else _) = _
      rw [if_neg (by decide)]; simp [Nat.add_assoc]
    rw [e3]; rfl
  · simp at h; obtain ⟨rfl, rfl⟩ := h; exact hb
/-- one mark more at the end of a slice of the call's own -/
theorem okm_app (q : Nat) {D Y1 nd c2 : Nat} {l : List Mk} {m : Mk} {x y : Operand} (hl : l.length = nd) (hlt : nd < 1000000) (ho : o.op = .call c) (hcal : c.callee = .builtin .append) (hargs : c.args = #[x, y]) (hty : c.argTypes = #[34, 34])
    (hx : ev s x = some (.slice (some ⟨D, 0, none⟩) nd 0)) (hy : ev s y = some (.slice (some ⟨Y1, 0, none⟩) 1 c2)) (hD : En.lk s.σ D = some (.vec 203 7 (mkL l))) (hY : En.lk s.σ Y1 = some (.vec 203 7 (mkC m))) (hq : memB q s.al = false) :
    AOk Tryz.prog s o ⟨rq s [x, y], [(D, .vec 203 7 (mkL l)), (Y1, .vec 203 7 (mkC m))]⟩ ⟨.slice (some ⟨q, 0, none⟩) (nd + 1) 0, [(D, .gone)], [(q, .vec 203 7 (mkL (l ++ [m])))]⟩ := by
  obtain ⟨ie, z, hie, h1, h2, h3, h4⟩ := info203x
  have hC : (mkL l).take (nd * 7) = mkL l := List.take_of_length_le (by rw [mkL_len]; omega)
  have hE : mkL (l ++ [m]) = mkL l ++ mkC m := by rw [mkL_append]; show mkL l ++ (mkC m ++ []) = _; rw [List.append_nil]
  refine ⟨fun B => ?_, ⟨fun t v h => rq_in h, fun n b h => ?_⟩, fun n b h => ?_, .inr fun n b h => ?_, fun n b h => ?_⟩
  · have := Does.append (P := Tryz.prog) (B := B) (s := s) (o := o) (c := c) (t := 34) (e := 203) (x := x) (y := y) (es := 7) (bytes := 56) (len := nd) (m := 1) (q := q) (xs := (mkL l).take (nd * 7)) (news := mkC m) (up := [(D, .gone)]) (σ := [(D, .vec 203 7 (mkL l)), (Y1, .vec 203 7 (mkC m))]) ho hcal hargs hty Tryz.underlying34 hie h1 h2 h3 h4 (by decide) (.vec hx List.mem_cons_self (by rw [mkL_len]; omega)) (.box hy (List.mem_cons_of_mem _ List.mem_cons_self) (fun j v h => by rw [Nat.zero_add]; exact h) rfl) (fun u hu => by simp only [mkC, List.mem_cons, List.not_mem_nil, or_false] at hu; rcases hu with rfl | rfl | rfl | rfl | rfl | rfl | rfl <;> rfl) (by unfold maxLen; omega) (by omega)
    rw [hC, ← hE] at this
    exact this
  · simp at h; rcases h with ⟨rfl, rfl⟩ | ⟨rfl, rfl⟩ <;> assumption
  · simp at h; obtain ⟨rfl, rfl⟩ := h; exact ⟨_, List.mem_cons_self, rfl⟩
  · simp at h; exact h.2
  · simp at h; rw [h.1]; intro hm; rw [memB_iff.2 hm] at hq; cases hq
end
end Go.Proofs.YtbageimconenlaaGreat
