/- A list of numbers taken apart from its front: a number, a list with its length before it. Plain. -/
namespace Go.Proofs.Ytlcgpldngooekaa
/-- between s and t the number x was taken, which fulfils P; if t is none, taking has failed -/
def Took (P : Int → Prop) (s t : Option (List Int)) (x : Int) : Prop := (∀ R, t = some R → P x ∧ s = some (x :: R)) ∧ (∀ y R, P y → s = some (y :: R) → t = some R)
def TookL (P : Int → Prop) (s t : Option (List Int)) (ds : List Int) : Prop := (∀ R, t = some R → (∀ d ∈ ds, P d) ∧ s = some ((ds.length : Int) :: (ds ++ R))) ∧ (∀ es R, (∀ d ∈ es, P d) → s = some ((es.length : Int) :: (es ++ R)) → t = some R)
/-- of the n elements whose places begin at s, i have been taken: acc -/
def Going (P : Int → Prop) (s : Option (List Int)) (n i : Nat) (acc : List Int) (t : Option (List Int)) : Prop :=
  acc.length = i ∧ i ≤ n ∧ (∀ R, t = some R → (∀ d ∈ acc, P d) ∧ s = some (acc ++ R)) ∧ (∀ es R, (∀ d ∈ es, P d) → es.length = n → s = some (es ++ R) → t = some (es.drop i ++ R))
variable {P : Int → Prop} {s t u : Option (List Int)} {n i : Nat} {acc : List Int}
theorem Going.start (s : Option (List Int)) (n : Nat) : Going P s n 0 [] s := ⟨rfl, Nat.zero_le _, fun R h => ⟨fun d hd => (by cases hd), h⟩, fun es R _ _ h => h⟩
theorem Going.step (h : Going P s n i acc t) (hi : i < n) {x : Int} (k : Took P t u x) : Going P s n (i + 1) (acc ++ [x]) u := by
  obtain ⟨h1, h2, h3, h4⟩ := h
  refine ⟨by simp [h1], hi, fun R hR => ?_, fun es R he hl hs => ?_⟩
  · obtain ⟨k1, k2⟩ := k.1 R hR
    obtain ⟨k3, k4⟩ := h3 _ k2
    refine ⟨fun d hd => ?_, by rw [k4]; simp⟩
    rcases List.mem_append.1 hd with hd | hd
    · exact k3 d hd
    · obtain rfl : d = x := by simpa using hd
      exact k1
  · have := h4 es R he hl hs
    rw [List.drop_eq_getElem_cons (by omega)] at this
    exact k.2 _ _ (he _ (List.getElem_mem _)) this
theorem Going.dead (h : Going P s n i acc none) : Going P s n i acc none := h
/-- the length was taken and the elements; the loop has ended -/
theorem TookL.mk {s0 s1 s2 : Option (List Int)} {m : Int} (h0 : Took (fun _ => True) s0 s1 m) (hgo : 0 ≤ m → Going P s2 m.toNat i acc t) (hend : (0 ≤ m ∧ i = m.toNat) ∨ t = none)
    (hs : ∀ R, s2 = some R → s1 = some R) (hlen : ∀ es R, s1 = some (es ++ R) → m = (es.length : Int) → s2 = some (es ++ R)) : TookL P s0 t acc := by
  refine ⟨fun R hR => ?_, fun es R he h => ?_⟩
  · rcases hend with ⟨hm, hi⟩ | hn
    · obtain ⟨g1, g2, g3, g4⟩ := hgo hm
      obtain ⟨k1, k2⟩ := g3 R hR
      refine ⟨k1, ?_⟩
      rw [(h0.1 _ (hs _ k2)).2, g1, hi]
      simp; omega
    · rw [hn] at hR; cases hR
  · have h1 := h0.2 _ _ trivial h
    have h2 := (h0.1 _ h1).2
    rw [h] at h2
    injection h2 with h2
    injection h2 with h2 _
    have h3 := hlen es R h1 h2.symm
    obtain ⟨g1, g2, g3, g4⟩ := hgo (by omega)
    have h4 := g4 es R he (by omega) h3
    rcases hend with ⟨hm, hi⟩ | hn
    · rw [h4, hi, List.drop_of_length_le (by omega)]; rfl
    · rw [hn] at h4; cases h4
def flatC (a b c d e f g h i j k l : Int) (ds : List Int) (q r v : Int) (bs : List Int) : List Int :=
  a :: b :: c :: d :: e :: f :: g :: h :: i :: j :: k :: l :: (ds.length : Int) :: (ds ++ (q :: r :: v :: (bs.length : Int) :: bs))
def IsByte (x : Int) : Prop := 0 ≤ x ∧ x ≤ 255
def Any (_ : Int) : Prop := True
theorem took_back {x : Int} (h : Took Any s t x) {R : List Int} (k : t = some R) : s = some (x :: R) := (h.1 R k).2
theorem took_on {x y : Int} (h : Took Any s t x) {R : List Int} (k : s = some (y :: R)) : t = some R := h.2 y R trivial k
theorem chainC {s0 s1 s2 s3 s4 s5 s6 s7 s8 s9 s10 s11 s12 s13 s14 s15 s16 s17 : Option (List Int)} {a b c d e f g h i j k l q r v : Int} {ds bs : List Int}
    (h1 : Took Any s0 s1 a) (h2 : Took Any s1 s2 b) (h3 : Took Any s2 s3 c) (h4 : Took Any s3 s4 d) (h5 : Took Any s4 s5 e) (h6 : Took Any s5 s6 f) (h7 : Took Any s6 s7 g) (h8 : Took Any s7 s8 h) (h9 : Took Any s8 s9 i) (h10 : Took Any s9 s10 j)
    (h11 : Took Any s10 s11 k) (h12 : Took Any s11 s12 l) (h13 : TookL Any s12 s13 ds) (h14 : Took Any s13 s14 q) (h15 : Took Any s14 s15 r) (h16 : Took Any s15 s16 v) (h17 : TookL IsByte s16 s17 bs) :
    (s17 = some [] → (∀ x ∈ bs, IsByte x) ∧ s0 = some (flatC a b c d e f g h i j k l ds q r v bs)) ∧
    (∀ a' b' c' d' e' f' g' h' i' j' k' l' ds' q' r' v' bs', (∀ x ∈ bs', IsByte x) → s0 = some (flatC a' b' c' d' e' f' g' h' i' j' k' l' ds' q' r' v' bs') → s17 = some []) := by
  refine ⟨fun hs => ?_, fun a' b' c' d' e' f' g' h' i' j' k' l' ds' q' r' v' bs' hb hs => ?_⟩
  · obtain ⟨k1, k2⟩ := h17.1 _ hs
    refine ⟨k1, ?_⟩
    have k3 := (h13.1 _ (took_back h14 (took_back h15 (took_back h16 k2)))).2
    have k4 := took_back h1 (took_back h2 (took_back h3 (took_back h4 (took_back h5 (took_back h6 (took_back h7 (took_back h8 (took_back h9 (took_back h10 (took_back h11 (took_back h12 k3)))))))))))
    rw [k4]; simp [flatC]
  · have k1 := took_on h12 (took_on h11 (took_on h10 (took_on h9 (took_on h8 (took_on h7 (took_on h6 (took_on h5 (took_on h4 (took_on h3 (took_on h2 (took_on h1 hs)))))))))))
    have k2 := h13.2 ds' _ (fun _ _ => trivial) k1
    have k3 := took_on h16 (took_on h15 (took_on h14 k2))
    exact h17.2 bs' [] hb (by simpa using k3)
end Go.Proofs.Ytlcgpldngooekaa
