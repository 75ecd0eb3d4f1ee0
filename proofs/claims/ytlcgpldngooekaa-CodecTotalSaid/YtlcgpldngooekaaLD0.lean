/- Words for the walk of the law CodecDamaged. -/
import Derived.Test.YtlcgpldngooekaaVI
import Derived.Test.YtlcgpldngooekaaVK
import Derived.Test.YtlcgpldngooekaaLUniq
import Derived.Deep.CutBlock
namespace Go.Proofs.Ytlcgpldngooekaa
open Go.RowKit
set_option linter.unusedVariables false
set_option maxRecDepth 100000
theorem Sl.front {w : World} {B n k : Nat} {A : Option Addr} {xs : List Value} (h : Sl w B A n xs) (hk : k ≤ n) : Sl w B A k (xs.take k) := by
  refine ⟨by rw [List.length_take, h.1]; omega, fun hp => ?_⟩
  obtain ⟨b, o, e, hb, hc⟩ := h.2 (by omega)
  refine ⟨b, o, e, hb, fun i u hu => hc i u ?_⟩
  rw [List.getElem?_take] at hu
  split at hu
  · exact hu
  · cases hu
/-- the code l with one byte changed, cut off, or one added -/
def dmg (l : List Int) (at_ xx how : Int) : List Int := if how % 3 = 0 then l.set (at_ % (l.length : Int)).toNat xx else if how % 3 = 1 then l.take (at_ % (l.length : Int)).toNat else l ++ [xx]
theorem held51 {w w' : World} {p q r : Nat} {t t' t'' : TypeId} {v0 v1 v2 v3 v4 v5 v6 v7 v8 v9 v10 v11 v12 v13 v14 v15 v16 u0 u1 u2 u3 u4 u5 u6 u7 u8 u9 u10 u11 u12 u13 u14 u15 u16 t0 t1 t2 t3 t4 t5 t6 t7 t8 t9 t10 t11 t12 t13 t14 t15 t16 : Value} (h : Blk w p t #[v0, v1, v2, v3, v4, v5, v6, v7, v8, v9, v10, v11, v12, v13, v14, v15, v16]) (k : Blk w q t' #[u0, u1, u2, u3, u4, u5, u6, u7, u8, u9, u10, u11, u12, u13, u14, u15, u16]) (l : Blk w r t'' #[t0, t1, t2, t3, t4, t5, t6, t7, t8, t9, t10, t11, t12, t13, t14, t15, t16]) (hb : Below w.heap.size w w') : w'.cell? ⟨p, 0, none⟩ = some (v0) ∧ w'.cell? ⟨p, 1, none⟩ = some (v1) ∧ w'.cell? ⟨p, 2, none⟩ = some (v2) ∧ w'.cell? ⟨p, 3, none⟩ = some (v3) ∧ w'.cell? ⟨p, 4, none⟩ = some (v4) ∧ w'.cell? ⟨p, 5, none⟩ = some (v5) ∧ w'.cell? ⟨p, 6, none⟩ = some (v6) ∧ w'.cell? ⟨p, 7, none⟩ = some (v7) ∧ w'.cell? ⟨p, 8, none⟩ = some (v8) ∧ w'.cell? ⟨p, 9, none⟩ = some (v9) ∧ w'.cell? ⟨p, 10, none⟩ = some (v10) ∧ w'.cell? ⟨p, 11, none⟩ = some (v11) ∧ w'.cell? ⟨p, 12, none⟩ = some (v12) ∧ w'.cell? ⟨p, 13, none⟩ = some (v13) ∧ w'.cell? ⟨p, 14, none⟩ = some (v14) ∧ w'.cell? ⟨p, 15, none⟩ = some (v15) ∧ w'.cell? ⟨p, 16, none⟩ = some (v16) ∧ w'.cell? ⟨q, 0, none⟩ = some (u0) ∧ w'.cell? ⟨q, 1, none⟩ = some (u1) ∧ w'.cell? ⟨q, 2, none⟩ = some (u2) ∧ w'.cell? ⟨q, 3, none⟩ = some (u3) ∧ w'.cell? ⟨q, 4, none⟩ = some (u4) ∧ w'.cell? ⟨q, 5, none⟩ = some (u5) ∧ w'.cell? ⟨q, 6, none⟩ = some (u6) ∧ w'.cell? ⟨q, 7, none⟩ = some (u7) ∧ w'.cell? ⟨q, 8, none⟩ = some (u8) ∧ w'.cell? ⟨q, 9, none⟩ = some (u9) ∧ w'.cell? ⟨q, 10, none⟩ = some (u10) ∧ w'.cell? ⟨q, 11, none⟩ = some (u11) ∧ w'.cell? ⟨q, 12, none⟩ = some (u12) ∧ w'.cell? ⟨q, 13, none⟩ = some (u13) ∧ w'.cell? ⟨q, 14, none⟩ = some (u14) ∧ w'.cell? ⟨q, 15, none⟩ = some (u15) ∧ w'.cell? ⟨q, 16, none⟩ = some (u16) ∧ w'.cell? ⟨r, 0, none⟩ = some (t0) ∧ w'.cell? ⟨r, 1, none⟩ = some (t1) ∧ w'.cell? ⟨r, 2, none⟩ = some (t2) ∧ w'.cell? ⟨r, 3, none⟩ = some (t3) ∧ w'.cell? ⟨r, 4, none⟩ = some (t4) ∧ w'.cell? ⟨r, 5, none⟩ = some (t5) ∧ w'.cell? ⟨r, 6, none⟩ = some (t6) ∧ w'.cell? ⟨r, 7, none⟩ = some (t7) ∧ w'.cell? ⟨r, 8, none⟩ = some (t8) ∧ w'.cell? ⟨r, 9, none⟩ = some (t9) ∧ w'.cell? ⟨r, 10, none⟩ = some (t10) ∧ w'.cell? ⟨r, 11, none⟩ = some (t11) ∧ w'.cell? ⟨r, 12, none⟩ = some (t12) ∧ w'.cell? ⟨r, 13, none⟩ = some (t13) ∧ w'.cell? ⟨r, 14, none⟩ = some (t14) ∧ w'.cell? ⟨r, 15, none⟩ = some (t15) ∧ w'.cell? ⟨r, 16, none⟩ = some (t16) := by
  have h' := h.below hb h.lt
  have k' := k.below hb k.lt
  have l' := l.below hb l.lt
  exact ⟨h'.cell 0, h'.cell 1, h'.cell 2, h'.cell 3, h'.cell 4, h'.cell 5, h'.cell 6, h'.cell 7, h'.cell 8, h'.cell 9, h'.cell 10, h'.cell 11, h'.cell 12, h'.cell 13, h'.cell 14, h'.cell 15, h'.cell 16, k'.cell 0, k'.cell 1, k'.cell 2, k'.cell 3, k'.cell 4, k'.cell 5, k'.cell 6, k'.cell 7, k'.cell 8, k'.cell 9, k'.cell 10, k'.cell 11, k'.cell 12, k'.cell 13, k'.cell 14, k'.cell 15, k'.cell 16, l'.cell 0, l'.cell 1, l'.cell 2, l'.cell 3, l'.cell 4, l'.cell 5, l'.cell 6, l'.cell 7, l'.cell 8, l'.cell 9, l'.cell 10, l'.cell 11, l'.cell 12, l'.cell 13, l'.cell 14, l'.cell 15, l'.cell 16⟩
theorem wpList_load45g {ops : Array Oper} {rest : List Oper} {o : Oper} {a : Act} {w : World} {Q : Exit → Act → World → Prop} (hg : Region.wanted o (yielded ops a.tmps) = true) (x : Operand) (ho : o.op = .load 45 x) (g : Nat) (t : TypeId) {u0 u1 u2 u3 u4 u5 u6 u7 u8 u9 u10 u11 u12 u13 u14 u15 u16 : Value} (hx : a.eval x = .pointer (some ⟨g, 0, none⟩)) (hB : Blk w g t #[u0, u1, u2, u3, u4, u5, u6, u7, u8, u9, u10, u11, u12, u13, u14, u15, u16]) (h : wpList Try.prog ops Q rest (a.put o.dst (.agg #[u0, u1, u2, u3, u4, u5, u6, u7, u8, u9, u10, u11, u12, u13, u14, u15, u16])) w) : wpList Try.prog ops Q (o :: rest) a w :=
  wpList_step fun K hK => by rw [if_pos hg]; exact wp_load45 x ho g t hx hB (hK _ _ h)
end Go.Proofs.Ytlcgpldngooekaa
