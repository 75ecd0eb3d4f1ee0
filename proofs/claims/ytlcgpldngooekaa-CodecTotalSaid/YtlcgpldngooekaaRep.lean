/- Replies as lists of numbers. Plain. -/
import Derived.Test.YtlcgpldngooekaaCmd
namespace Go.Proofs.Ytlcgpldngooekaa
open Go.RowKit
/-- the word of a number -/
def U64 (n : Int) : Int := n % 18446744073709551616
theorem U64.fit (n : Int) : 0 ≤ U64 n ∧ U64 n ≤ 18446744073709551615 := by unfold U64; omega
theorem U64.of_i64 (n : Int) : IntKind.u64.wrap n = U64 n := by rw [IntKind.wrap_u64]; rfl
theorem U64.back {n : Int} (h : Fit n) : IntKind.i64.wrap (U64 n) = n := by
  have h1 := h.1
  have h2 := h.2
  rw [show IntKind.i64.wrap (U64 n) = wrap64 (U64 n) from IntWalk.i64_left _]
  unfold U64 wrap64
  omega
theorem U64.there {u : Int} (h : 0 ≤ u ∧ u ≤ 18446744073709551615) : U64 (IntKind.i64.wrap u) = u := by
  rw [show IntKind.i64.wrap u = wrap64 u from IntWalk.i64_left _]
  unfold U64 wrap64
  omega
theorem U64.wrap_fit (u : Int) : Fit (IntKind.i64.wrap u) := by
  rw [show IntKind.i64.wrap u = wrap64 u from IntWalk.i64_left _]
  unfold wrap64 Fit
  omega
/-- the numbers of a reply, its words as signed numbers -/
structure RepD where
  n0 : Int
  n1 : Int
  n2 : Int
  n3 : Int
  n4 : Int
  n5 : Int
  n6 : Int
  vs : List Int
  n8 : Int
  n9 : Int
  n10 : Int
  n11 : Int
  is : List Int
  bs : List Int
def flatR (a b c d e f g : Int) (vs : List Int) (h i j k : Int) (is bs : List Int) : List Int :=
  a :: b :: c :: d :: e :: f :: g :: (vs.length : Int) :: (vs ++ (h :: i :: j :: k :: (is.length : Int) :: (is ++ ((bs.length : Int) :: bs))))
def RepD.flat (x : RepD) : List Int := flatR x.n0 x.n1 x.n2 x.n3 x.n4 x.n5 x.n6 x.vs x.n8 x.n9 x.n10 x.n11 x.is x.bs
def RepD.Ok (x : RepD) : Prop := (Fit x.n0 ∧ Fit x.n1 ∧ Fit x.n2 ∧ Fit x.n3 ∧ Fit x.n4 ∧ Fit x.n5 ∧ Fit x.n6 ∧ Fit x.n8 ∧ Fit x.n9 ∧ Fit x.n10 ∧ Fit x.n11) ∧ (∀ d ∈ x.vs, Fit d) ∧ (∀ d ∈ x.is, Fit d) ∧ (∀ d ∈ x.bs, 0 ≤ d ∧ d ≤ 255)
def RepD.zero : RepD := ⟨0, 0, 0, 0, 0, 0, 0, [], 0, 0, 0, 0, [], []⟩
def RepD.cells (x : RepD) (A1 : Option Addr) (c1 : Nat) (A2 : Option Addr) (c2 : Nat) (A3 : Option Addr) (c3 : Nat) : Array Value := #[.int .i64 x.n0, .int .i64 x.n1, .int .i64 x.n2, .int .i64 x.n3, .int .i64 x.n4, .int .i64 x.n5, .int .i64 x.n6, .slice A1 x.vs.length c1, .int .u64 (U64 x.n8), .int .u64 (U64 x.n9), .int .u64 (U64 x.n10), .int .u64 (U64 x.n11), .slice A2 x.is.length c2, .slice A3 x.bs.length c3]
/-- a reply's value holds the numbers x -/
def HoldsR (w : World) (B : Nat) (v : Value) (x : RepD) : Prop := ∃ A1 c1 A2 c2 A3 c3, v = .agg (x.cells A1 c1 A2 c2 A3 c3) ∧ Sl w B A1 x.vs.length (x.vs.map (Value.int .i64)) ∧ Sl w B A2 x.is.length (x.is.map (Value.int .i64)) ∧ Sl w B A3 x.bs.length (x.bs.map (Value.int .u8))
theorem RepD.zero_ok : RepD.zero.Ok := by
  simp [RepD.Ok, RepD.zero, Fit]
theorem HoldsR.keep {w w' : World} {B : Nat} {v : Value} {x : RepD} (h : HoldsR w B v x) (hb : Below B w w') : HoldsR w' B v x := by
  obtain ⟨A1, c1, A2, c2, A3, c3, e, h1, h2, h3⟩ := h
  exact ⟨A1, c1, A2, c2, A3, c3, e, h1.below hb, h2.below hb, h3.below hb⟩
theorem HoldsR.more {w : World} {B B' : Nat} {v : Value} {x : RepD} (h : HoldsR w B v x) (hb : B ≤ B') : HoldsR w B' v x := by
  obtain ⟨A1, c1, A2, c2, A3, c3, e, h1, h2, h3⟩ := h
  exact ⟨A1, c1, A2, c2, A3, c3, e, h1.more hb, h2.more hb, h3.more hb⟩
theorem RepD.flat_len (x : RepD) : x.flat.length = x.vs.length + x.is.length + x.bs.length + 14 := by simp [RepD.flat, flatR]; omega
theorem RepD.Ok.ints {x : RepD} (h : x.Ok) (h1 : x.vs.length ≤ 1000000) (h2 : x.is.length ≤ 1000000) (h3 : x.bs.length ≤ 1000000) : Ints x.flat := by
  obtain ⟨⟨a0, a1, a2, a3, a4, a5, a6, a8, a9, a10, a11⟩, hv, hi, hb⟩ := h
  intro n hn
  simp only [RepD.flat, flatR, List.mem_cons, List.mem_append] at hn
  rcases hn with rfl | rfl | rfl | rfl | rfl | rfl | rfl | rfl | hn | rfl | rfl | rfl | rfl | rfl | hn | rfl | hn
  · exact a0
  · exact a1
  · exact a2
  · exact a3
  · exact a4
  · exact a5
  · exact a6
  · exact ⟨by omega, by omega⟩
  · exact hv n hn
  · exact a8
  · exact a9
  · exact a10
  · exact a11
  · exact ⟨by omega, by omega⟩
  · exact hi n hn
  · exact ⟨by omega, by omega⟩
  · have := hb n hn; exact ⟨by omega, by omega⟩
theorem chainR {s0 s1 s2 s3 s4 s5 s6 s7 s8 s9 s10 s11 s12 s13 s14 : Option (List Int)} {a b c d e f g h i j k : Int} {vs is bs : List Int}
    (h1 : Took Any s0 s1 a) (h2 : Took Any s1 s2 b) (h3 : Took Any s2 s3 c) (h4 : Took Any s3 s4 d) (h5 : Took Any s4 s5 e) (h6 : Took Any s5 s6 f) (h7 : Took Any s6 s7 g) (h8 : TookL Any s7 s8 vs) (h9 : Took Any s8 s9 h) (h10 : Took Any s9 s10 i)
    (h11 : Took Any s10 s11 j) (h12 : Took Any s11 s12 k) (h13 : TookL Any s12 s13 is) (h14 : TookL IsByte s13 s14 bs) :
    (s14 = some [] → (∀ x ∈ bs, IsByte x) ∧ s0 = some (flatR a b c d e f g vs h i j k is bs)) ∧
    (∀ a' b' c' d' e' f' g' vs' h' i' j' k' is' bs', (∀ x ∈ bs', IsByte x) → s0 = some (flatR a' b' c' d' e' f' g' vs' h' i' j' k' is' bs') → s14 = some []) := by
  refine ⟨fun hs => ?_, fun a' b' c' d' e' f' g' vs' h' i' j' k' is' bs' hb hs => ?_⟩
  · obtain ⟨k1, k2⟩ := h14.1 _ hs
    refine ⟨k1, ?_⟩
    have k3 := (h13.1 _ k2).2
    have k4 := (h8.1 _ (took_back h9 (took_back h10 (took_back h11 (took_back h12 k3))))).2
    have k5 := took_back h1 (took_back h2 (took_back h3 (took_back h4 (took_back h5 (took_back h6 (took_back h7 k4))))))
    rw [k5]; simp [flatR]
  · have k1 := took_on h7 (took_on h6 (took_on h5 (took_on h4 (took_on h3 (took_on h2 (took_on h1 hs))))))
    have k2 := h8.2 vs' _ (fun _ _ => trivial) k1
    have k3 := took_on h12 (took_on h11 (took_on h10 (took_on h9 k2)))
    have k4 := h13.2 is' _ (fun _ _ => trivial) k3
    exact h14.2 bs' [] hb (by simpa using k4)
end Go.Proofs.Ytlcgpldngooekaa
