/- Bytes as strings, and their comparison. | One changed byte changes the checksum: plain facts. -/
import Derived.Test.YtlcgpldngooekaaSum
import Derived.Laws.IdiomStrings
import Derived.WalkLawsBesides
namespace Go.Proofs.Ytlcgpldngooekaa
open Go.RowKit
set_option linter.unusedVariables false
def byL (l : List Int) : List UInt8 := l.map fun n => UInt8.ofNat n.toNat
def strI (l : List Int) : ByteArray := ⟨(byL l).toArray⟩
theorem byL_at {l : List Int} (hb : Bytes l) (j : Nat) (hj : j < (byL l).length) (hj2 : j < l.length) : ((byL l)[j].toNat : Int) = l[j] := by
  have h := hb l[j] (List.getElem_mem hj2)
  simp only [byL, List.getElem_map]
  rw [UInt8.toNat_ofNat_of_lt' (by show l[j].toNat < 256; omega)]; omega
theorem byL_inj {a b : List Int} (ha : Bytes a) (hb : Bytes b) (h : byL a = byL b) : a = b := by
  have hl : a.length = b.length := by have := congrArg List.length h; simpa [byL] using this
  apply List.ext_getElem hl
  intro j h1 h2
  have e1 := byL_at ha j (by simpa [byL] using h1) h1
  have e2 := byL_at hb j (by simpa [byL] using h2) h2
  rw [← e1, ← e2]
  simp only [h]
theorem strI_inj {a b : List Int} (ha : Bytes a) (hb : Bytes b) (h : strI a = strI b) : a = b := by
  apply byL_inj ha hb
  have := congrArg (fun s => s.data.toList) h
  simpa [strI] using this
theorem run_str {w : World} {B n c : Nat} {A : Option Addr} {l : List Int} (h : Sl w B A n (l.map (Value.int .u8))) (hb : Bytes l) :
    (convert 22 9 (.slice A n c)).run Try.prog w = .ok (.string (strI l)) w := by
  have hl := h.len
  have e : n = (byL l).length := by simp [byL, hl]
  rcases A with _ | ad
  · have h0 : n = 0 := by
      rcases Nat.eq_zero_or_pos n with h0 | h0
      · exact h0
      · obtain ⟨b, o, he, _⟩ := h.2 h0; cases he
    subst h0
    have hn : l = [] := List.eq_nil_of_length_eq_zero hl
    subst hn
    rw [run_convert_bytes_string w 22 9 5 none 0 c Try.underlying22 Try.underlying5 Try.underlying9]
    simp [Conv.bytesToString, strI, byL]
    rfl
  · rw [e]
    refine run_convert_bytes_back w 22 9 5 ad c (byL l) Try.underlying22 Try.underlying5 Try.underlying9 fun j hj => ?_
    have hj2 : j < l.length := by simpa [byL] using hj
    obtain ⟨b, o, u, he, _, hu, hc⟩ := h.at_ (j := j) (by omega)
    injection he with he
    rw [List.getElem?_map, List.getElem?_eq_getElem hj2] at hu
    simp at hu
    rw [byL_at hb j hj hj2, hu, he]
    unfold Addr.add
    split
    · rename_i h0; subst h0; simpa using hc
    · simpa using hc
theorem tl_loop (bs : ByteArray) (k : Nat) : ∀ (i : Nat) (r : List UInt8), bs.size - i = k → ByteArray.toList.loop bs i r = r.reverse ++ bs.data.toList.drop i := by
  induction k with
  | zero =>
    intro i r h
    unfold ByteArray.toList.loop
    rw [if_neg (by omega), List.drop_eq_nil_of_le (by simp; omega), List.append_nil]
  | succ k ih =>
    intro i r h
    unfold ByteArray.toList.loop
    have hi : i < bs.size := by omega
    rw [if_pos hi, ih (i+1) _ (by omega)]
    have hi2 : i < bs.data.toList.length := by simpa using hi
    rw [List.drop_eq_getElem_cons hi2]
    simp [ByteArray.get!, getElem!_pos, hi]
theorem tl (bs : ByteArray) : bs.toList = bs.data.toList := by
  unfold ByteArray.toList
  rw [tl_loop bs bs.size 0 [] (by omega)]; simp
theorem strI_beq {a b : List Int} (ha : Bytes a) (hb : Bytes b) : ((strI a).toList == (strI b).toList) = decide (a = b) := by
  by_cases h : a = b
  · subst h; simp
  · rw [decide_eq_false h, beq_eq_false_iff_ne, tl, tl]
    intro c
    apply h
    apply strI_inj ha hb
    apply ByteArray.ext
    exact Array.toList_inj.1 c
def EqEnd (a b : List Int) (w : World) (e : Ending) (w' : World) : Prop := e = .returned (.bool (decide (a = b))) ∧ w = w'
theorem same_bytes (A A2 : Option Addr) (n c B n2 c2 B2 : Nat) (a b : List Int) (w : World) (h : Sl w B A n (a.map (Value.int .u8))) (ha : Bytes a) (k : Sl w B2 A2 n2 (b.map (Value.int .u8))) (hb : Bytes b) :
    Calls Try.prog 19 #[.slice A n c, .slice A2 n2 c2] w (EqEnd a b w) := by
  have r1 := run_str (c := c) h ha
  have r2 := run_str (c := c2) k hb
  have HE := hide (strI_beq ha hb)
  clear h k ha hb
  go_enter Try.func19, Try.ntmps19
  go_wp2
  go_ret
  exact ⟨by rw [← HE.out]; rfl, rfl⟩
end Go.Proofs.Ytlcgpldngooekaa
namespace Go.Proofs.Ytlcgpldngooekaa
open Go.RowKit
theorem stS_sum (l : List Int) : (stS l).1 = (1 + l.sum) % 65521 := by
  rw [← List.take_length (l := l)]
  generalize l.length = n
  induction n generalizing l with
  | zero => simp [stS]
  | succ n ih =>
    rcases h : l[n]? with _ | z
    · have : l.take (n + 1) = l.take n := by
        rw [List.take_of_length_le, List.take_of_length_le] <;> (have := List.getElem?_eq_none_iff.1 h; omega)
      rw [this]; exact ih l
    · rw [take_snoc h, stS_snoc, List.sum_append]
      unfold stepS
      simp only [ih l, List.sum_cons, List.sum_nil]
      omega
theorem set_parts (l : List Int) (k : Nat) (z x : Int) (h : l[k]? = some z) : l.set k x = l.take k ++ x :: l.drop (k + 1) ∧ l = l.take k ++ z :: l.drop (k + 1) := by
  refine ⟨List.set_eq_take_append_cons_drop.trans (if_pos (List.getElem?_eq_some_iff.1 h).1), ?_⟩
  rw [← drop_cons h, List.take_append_drop]
theorem sumV_set (l : List Int) (k : Nat) (z x : Int) (h : l[k]? = some z) (hz : 0 ≤ z ∧ z ≤ 255) (hx : 0 ≤ x ∧ x ≤ 255) : (sumV (l.set k x) == sumV l) = (z == x) := by
  obtain ⟨e1, e2⟩ := set_parts l k z x h
  by_cases hzx : z = x
  · subst hzx
    rw [e1, ← e2]; simp
  · have h1 := stS_sum (l.set k x)
    have h2 := stS_sum l
    have s1 : (l.set k x).sum = (l.take k).sum + (x + (l.drop (k + 1)).sum) := by rw [e1, List.sum_append, List.sum_cons]
    have s2 : l.sum = (l.take k).sum + (z + (l.drop (k + 1)).sum) := by
      conv => lhs; rw [e2]
      rw [List.sum_append, List.sum_cons]
    have b1 := stS_bd (l.set k x)
    have b2 := stS_bd l
    have : sumV (l.set k x) ≠ sumV l := by unfold sumV; omega
    rw [beq_eq_false_iff_ne.2 this, beq_eq_false_iff_ne.2 hzx]
theorem bytes_set {l : List Int} {k : Nat} {x : Int} (h : Bytes l) (hx : 0 ≤ x ∧ x ≤ 255) : Bytes (l.set k x) := by
  intro y hy
  rcases List.mem_or_eq_of_mem_set hy with hy | rfl
  · exact h y hy
  · exact hx
end Go.Proofs.Ytlcgpldngooekaa
