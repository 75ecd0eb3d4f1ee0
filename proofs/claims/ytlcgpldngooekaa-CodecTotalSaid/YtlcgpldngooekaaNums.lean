/- Writing and reading whole lists of numbers: plain mathematics. -/
import Derived.Test.YtlcgpldngooekaaVA
import Derived.Test.YtlcgpldngooekaaWords
namespace Go.Proofs.Ytlcgpldngooekaa
def writeL (ns : List Int) : List Int := ns.flatMap codeN
theorem writeL_nil : writeL [] = [] := rfl
theorem writeL_cons (n : Int) (ns : List Int) : writeL (n :: ns) = codeN n ++ writeL ns := by simp [writeL]
theorem writeL_snoc (n : Int) (ns : List Int) : writeL (ns ++ [n]) = writeL ns ++ codeN n := by simp [writeL]
theorem writeL_len : ∀ ns : List Int, (writeL ns).length ≤ 10 * ns.length ∧ ns.length ≤ (writeL ns).length
  | [] => by simp [writeL]
  | n :: ns => by
    have h1 := codeN_len n
    have h2 := writeL_len ns
    rw [writeL_cons, List.length_append, List.length_cons]
    omega
def Ints (l : List Int) : Prop := ∀ n ∈ l, -9223372036854775808 ≤ n ∧ n ≤ 9223372036854775807
theorem writeL_bytes {ns : List Int} (h : Ints ns) : ∀ x ∈ writeL ns, 0 ≤ x ∧ x ≤ 255 := by
  intro x hx
  simp only [writeL, List.mem_flatMap] at hx
  obtain ⟨n, hn, hx⟩ := hx
  exact codeN_bytes (h n hn) x hx
def numsF : Nat → List Int → Int → Option (List Int)
  | 0, l, a => if a < l.length then none else some []
  | f + 1, l, a => if a < l.length then (if (readV l a).2.2 = true then (numsF f l (readV l a).2.1).map ((readV l a).1 :: ·) else none) else some []
theorem numsF_end {f : Nat} {l : List Int} {a : Int} (h : ¬ a < l.length) : numsF f l a = some [] := by
  cases f <;> simp [numsF, h]
theorem numsF_bad {f : Nat} {l : List Int} {a : Int} (h : a < l.length) (h2 : (readV l a).2.2 = false) : numsF f l a = none := by
  cases f <;> simp [numsF, h, h2]
theorem numsF_step {f : Nat} {l : List Int} {a x q : Int} (h : a < l.length) (h2 : readV l a = (x, q, true)) : numsF (f + 1) l a = (numsF f l q).map (x :: ·) := by
  rw [numsF, if_pos h, h2, if_pos rfl]
theorem numsF_writeL : ∀ (ns pre : List Int) (f : Nat), Ints ns → ns.length ≤ f → numsF f (pre ++ writeL ns) (pre.length : Int) = some ns
  | [], pre, f, _, _ => numsF_end (by simp [writeL])
  | n :: ns, pre, 0, _, hf => by simp at hf
  | n :: ns, pre, f + 1, h, hf => by
    have hr := readV_code (h n List.mem_cons_self) pre (writeL ns)
    have hl := codeN_len n
    rw [writeL_cons, numsF_step (by simp; omega) hr]
    have ih := numsF_writeL ns (pre ++ codeN n) f (fun x hx => h x (List.mem_cons_of_mem _ hx)) (by simpa using hf)
    rw [List.append_assoc, List.length_append] at ih
    rw [show ((pre.length : Int) + (codeN n).length) = ((pre.length + (codeN n).length : Nat) : Int) by omega, ih]
    rfl
def numsV (l : List Int) : List Int × Int := match numsF l.length l 0 with
  | none => ([], 13)
  | some xs => (xs, 0)
theorem numsV_none {l : List Int} (h : numsF l.length l 0 = none) : numsV l = ([], 13) := by unfold numsV; rw [h]
theorem numsV_some {l xs : List Int} (h : numsF l.length l 0 = some xs) : numsV l = (xs, 0) := by unfold numsV; rw [h]
theorem numsV_writeL {ns : List Int} (h : Ints ns) : numsV (writeL ns) = (ns, 0) := by
  apply numsV_some
  have := numsF_writeL ns [] (writeL ns).length h (writeL_len ns).2
  simpa using this
theorem map_some_pre {o : Option (List Int)} {pre : List Int} {x : Int} : (o.map (x :: ·)).map (pre ++ ·) = o.map ((pre ++ [x]) ++ ·) := by
  cases o <;> simp
end Go.Proofs.Ytlcgpldngooekaa
