/- The engine over the program: closed facts. -/
import Derived.Test.YtbageimconenlaaGreatE9
import Derived.Test.YtbageimconenlaaGreatProg
import Derived.Laws.StructEq
namespace Go.Proofs.YtbageimconenlaaGreat
open Go.RowKit En
set_option linter.unusedVariables false
theorem mixedP : Tryz.prog.follows .mixedOrders = true := by kernel_rfl
def eqz : Value → Value → Bool
  | .int k a, .int k' b => decide (k = k') && decide (a = b)
  | .bool a, .bool b => decide (a = b)
  | .slice none n c, .slice none n' c' => Nat.beq n n' && Nat.beq c c'
  | .pointer none, .pointer none => true
  | .nilFunc, .nilFunc => true
  | _, _ => false
theorem eqz_eq {a b : Value} (h : eqz a b = true) : a = b := by
  unfold eqz at h
  split at h
  · simp at h; rw [h.1, h.2]
  · simp at h; rw [h]
  · simp only [Bool.and_eq_true] at h; rw [Nat.eq_of_beq_eq_true h.1, Nat.eq_of_beq_eq_true h.2]
  · rfl
  · rfl
  · cases h
def eqzs : List Value → List Value → Bool
  | [], [] => true
  | a :: l, b :: r => eqz a b && eqzs l r
  | _, _ => false
theorem eqzs_eq : ∀ {l r : List Value}, eqzs l r = true → l = r
  | [], [], _ => rfl
  | a :: l, b :: r, h => by
    simp only [eqzs, Bool.and_eq_true] at h
    rw [eqz_eq h.1, eqzs_eq h.2]
def kB (P : Program) (t : TypeId) : TK → Bool
  | .struct pls => match P.underlying t with | some (.struct fs) => flds P fs.toList pls | _ => false
  | .array n es => match P.underlying t with | some (.array n' e) => (match P.info? e with | some ie => Nat.beq n' n && Nat.beq ie.size es | none => false) | _ => false
  | .slice e es bytes => match P.underlying t with | some (.slice e') => (match P.info? e with | some ie => Nat.beq e' e && (Nat.beq ie.size es && (Nat.beq ie.bytes bytes && (match ie.zero with | some z => Nat.beq z.cells.size es | none => false))) | none => false) | _ => false
  | .other => true
def tiB (P : Program) (t : TypeId) (ti : TI) : Bool :=
  (match P.info? t with
  | some i => Nat.beq i.size ti.size && (match i.zero with | some z => eqzs z.cells.toList ti.zero | none => false)
  | none => false) &&
  (match aggB P t with | some b => decide (b = ti.agg) | none => false) && kB P t ti.k
theorem tiB_ok {P : Program} {t : TypeId} {ti : TI} (h : tiB P t ti = true) : TIOK P t ti := by
  simp only [tiB, Bool.and_eq_true] at h
  obtain ⟨⟨h1, h2⟩, h3⟩ := h
  refine ⟨?_, ?_, ?_⟩
  · split at h1
    · rename_i i hi
      simp only [Bool.and_eq_true] at h1
      obtain ⟨e1, e2⟩ := h1
      split at e2
      · rename_i z hz
        exact ⟨i, z, hi, Nat.eq_of_beq_eq_true e1, hz, eqzs_eq e2⟩
      · cases e2
    · cases h1
  · split at h2
    · rename_i b hb
      simp at h2
      rw [hb, h2]
    · cases h2
  · unfold kB at h3
    cases hk : ti.k with
    | struct pls =>
      rw [hk] at h3
      simp only at h3
      split at h3
      · rename_i fs hu; exact ⟨fs, hu, h3⟩
      · cases h3
    | array n es =>
      rw [hk] at h3
      simp only at h3
      split at h3
      · rename_i n' e hu
        split at h3
        · rename_i ie hie
          simp only [Bool.and_eq_true] at h3
          exact ⟨e, ie, by rw [hu, Nat.eq_of_beq_eq_true h3.1], hie, Nat.eq_of_beq_eq_true h3.2⟩
        · cases h3
      · cases h3
    | slice e es bytes =>
      rw [hk] at h3
      simp only at h3
      split at h3
      · rename_i e' hu
        split at h3
        · rename_i ie hie
          simp only [Bool.and_eq_true] at h3
          obtain ⟨a1, a2, a3, a4⟩ := h3
          split at a4
          · rename_i z hz
            exact ⟨ie, z, by rw [hu, Nat.eq_of_beq_eq_true a1], hie, Nat.eq_of_beq_eq_true a2, Nat.eq_of_beq_eq_true a3, hz, Nat.eq_of_beq_eq_true a4⟩
          · cases a4
        · cases h3
      · cases h3
    | other => trivial
def tbB (P : Program) : (List (Nat × TI)) → Bool
  | [] => true
  | (t, ti) :: r => tiB P t ti && tbB P r
theorem tbB_ok {P : Program} : ∀ {tb : (List (Nat × TI))}, tbB P tb = true → TbOK P tb
  | [], _, t, ti, h => absurd h List.not_mem_nil
  | (t', ti') :: r, h, t, ti, hm => by
    simp only [tbB, Bool.and_eq_true] at h
    rcases List.mem_cons.1 hm with e | e
    · injection e with e1 e2
      subst e1 e2
      exact tiB_ok h.1
    · exact tbB_ok h.2 t ti e
def tbl : (List (Nat × TI)) := [(2, ⟨false, 1, [.int .i64 0], .other⟩), (3, ⟨false, 1, [.int .i64 0], .other⟩), (4, ⟨false, 1, [.bool false], .other⟩), (71, ⟨false, 1, [.int .u64 0], .other⟩), (73, ⟨true, 2, [.int .u64 0, .int .u64 0], .struct [(0, 1), (1, 1)]⟩), (68, ⟨true, 2, [.int .i64 0, .int .i64 0], .struct [(0, 1), (1, 1)]⟩), (70, ⟨true, 6, [.int .i64 0, .int .i64 0, .int .i64 0, .int .i64 0, .int .i64 0, .int .i64 0], .struct [(0, 2), (2, 2), (4, 2)]⟩), (57, ⟨false, 1, [.int .i64 0], .other⟩), (22, ⟨false, 1, [.slice none 0 0], .slice 2 1 8⟩), (29, ⟨false, 1, [.slice none 0 0], .slice 262 2 16⟩), (262, ⟨true, 2, [.int .i64 0, .int .i64 0], .struct [(0, 1), (1, 1)]⟩), (31, ⟨true, 5, [.int .i64 0, .int .i64 0, .int .i64 0, .int .i64 0, .slice none 0 0], .struct [(0, 1), (1, 1), (2, 1), (3, 1), (4, 1)]⟩), (34, ⟨false, 1, [.slice none 0 0], .slice 203 7 56⟩), (38, ⟨true, 6, [.int .i64 0, .int .i64 0, .int .i64 0, .int .i64 0, .int .i64 0, .slice none 0 0], .struct [(0, 1), (1, 1), (2, 1), (3, 1), (4, 1), (5, 1)]⟩), (54, ⟨true, 5, [.int .i64 0, .int .i64 0, .int .i64 0, .int .i64 0, .slice none 0 0], .struct [(0, 1), (1, 1), (2, 1), (3, 1), (4, 1)]⟩), (56, ⟨true, 57, [.int .i64 0, .int .i64 0, .int .i64 0, .int .i64 0, .int .i64 0, .int .i64 0, .int .i64 0, .int .i64 0, .int .i64 0, .int .i64 0, .int .i64 0, .slice none 0 0, .int .i64 0, .int .i64 0, .int .i64 0, .int .i64 0, .slice none 0 0, .int .i64 0, .int .i64 0, .int .i64 0, .int .i64 0, .int .i64 0, .slice none 0 0, .int .i64 0, .int .i64 0, .int .i64 0, .int .i64 0, .int .i64 0, .int .i64 0, .slice none 0 0, .int .i64 0, .int .i64 0, .int .i64 0, .int .i64 0, .int .i64 0, .slice none 0 0, .int .i64 0, .int .i64 0, .int .i64 0, .slice none 0 0, .int .i64 0, .slice none 0 0, .bool false, .int .i64 0, .int .i64 0, .int .i64 0, .slice none 0 0, .slice none 0 0, .int .i64 0, .int .i64 0, .int .i64 0, .slice none 0 0, .int .i64 0, .int .i64 0, .int .i64 0, .int .i64 0, .slice none 0 0], .struct [(0, 8), (8, 4), (12, 5), (17, 6), (23, 7), (30, 6), (36, 4), (40, 2), (42, 5), (47, 1), (48, 4), (52, 5)]⟩), (25, ⟨true, 8, [.int .i64 0, .int .i64 0, .int .i64 0, .int .i64 0, .int .i64 0, .int .i64 0, .int .i64 0, .int .i64 0], .struct [(0, 1), (1, 1), (2, 1), (3, 1), (4, 1), (5, 1), (6, 1), (7, 1)]⟩), (77, ⟨true, 11, [.int .i64 0, .int .i64 0, .int .i64 0, .int .i64 0, .int .i64 0, .int .i64 0, .slice none 0 0, .int .u64 0, .int .u64 0, .int .u64 0, .int .u64 0], .struct [(0, 6), (6, 1), (7, 4)]⟩), (81, ⟨true, 3, [.int .i64 0, .int .i64 0, .int .i64 0], .struct [(0, 1), (1, 1), (2, 1)]⟩), (26, ⟨false, 1, [.slice none 0 0], .slice 88 2 16⟩), (88, ⟨true, 2, [.int .i64 0, .int .i64 0], .struct [(0, 1), (1, 1)]⟩), (52, ⟨false, 1, [.slice none 0 0], .slice 273 5 56⟩), (28, ⟨true, 4, [.int .i64 0, .int .i64 0, .int .i64 0, .slice none 0 0], .struct [(0, 1), (1, 1), (2, 1), (3, 1)]⟩), (33, ⟨true, 6, [.int .i64 0, .int .i64 0, .int .i64 0, .int .i64 0, .int .i64 0, .slice none 0 0], .struct [(0, 1), (1, 1), (2, 1), (3, 1), (4, 1), (5, 1)]⟩), (36, ⟨true, 7, [.int .i64 0, .int .i64 0, .int .i64 0, .int .i64 0, .int .i64 0, .int .i64 0, .slice none 0 0], .struct [(0, 1), (1, 1), (2, 1), (3, 1), (4, 1), (5, 1), (6, 1)]⟩), (41, ⟨true, 4, [.int .i64 0, .int .i64 0, .int .i64 0, .slice none 0 0], .struct [(0, 1), (1, 1), (2, 1), (3, 1)]⟩), (43, ⟨true, 2, [.int .i64 0, .slice none 0 0], .struct [(0, 1), (1, 1)]⟩), (45, ⟨true, 5, [.bool false, .int .i64 0, .int .i64 0, .int .i64 0, .slice none 0 0], .struct [(0, 1), (1, 1), (2, 1), (3, 1), (4, 1)]⟩), (48, ⟨true, 1, [.slice none 0 0], .struct [(0, 1)]⟩), (51, ⟨true, 4, [.int .i64 0, .int .i64 0, .int .i64 0, .slice none 0 0], .struct [(0, 1), (1, 1), (2, 1), (3, 1)]⟩), (67, ⟨true, 2, [.int .i64 0, .int .i64 0], .struct [(0, 1), (1, 1)]⟩), (72, ⟨true, 2, [.int .u64 0, .int .u64 0], .struct [(0, 1), (1, 1)]⟩), (69, ⟨true, 6, [.int .i64 0, .int .i64 0, .int .i64 0, .int .i64 0, .int .i64 0, .int .i64 0], .struct [(0, 2), (2, 2), (4, 2)]⟩), (76, ⟨true, 11, [.int .i64 0, .int .i64 0, .int .i64 0, .int .i64 0, .int .i64 0, .int .i64 0, .slice none 0 0, .int .u64 0, .int .u64 0, .int .u64 0, .int .u64 0], .struct [(0, 6), (6, 1), (7, 4)]⟩), (74, ⟨true, 4, [.int .u64 0, .int .u64 0, .int .u64 0, .int .u64 0], .struct [(0, 2), (2, 2)]⟩), (75, ⟨true, 4, [.int .u64 0, .int .u64 0, .int .u64 0, .int .u64 0], .struct [(0, 2), (2, 2)]⟩), (5, ⟨false, 1, [.int .u8 0], .other⟩), (6, ⟨false, 1, [.int .u8 0], .other⟩), (7, ⟨true, 4, [.int .i64 0, .int .i64 0, .bool false, .int .u8 0], .struct [(0, 1), (1, 1), (2, 1), (3, 1)]⟩), (8, ⟨true, 4, [.int .i64 0, .int .i64 0, .bool false, .int .u8 0], .struct [(0, 1), (1, 1), (2, 1), (3, 1)]⟩), (12, ⟨false, 1, [.int .u64 0], .other⟩), (15, ⟨false, 1, [.pointer none], .other⟩), (16, ⟨false, 1, [.pointer none], .other⟩), (17, ⟨false, 1, [.pointer none], .other⟩), (18, ⟨true, 1, [.pointer none], .struct [(0, 1)]⟩), (19, ⟨true, 1, [.pointer none], .struct [(0, 1)]⟩), (21, ⟨false, 1, [.int .i32 0], .other⟩), (24, ⟨true, 8, [.int .i64 0, .int .i64 0, .int .i64 0, .int .i64 0, .int .i64 0, .int .i64 0, .int .i64 0, .int .i64 0], .struct [(0, 1), (1, 1), (2, 1), (3, 1), (4, 1), (5, 1), (6, 1), (7, 1)]⟩), (27, ⟨true, 4, [.int .i64 0, .int .i64 0, .int .i64 0, .slice none 0 0], .struct [(0, 1), (1, 1), (2, 1), (3, 1)]⟩), (30, ⟨true, 5, [.int .i64 0, .int .i64 0, .int .i64 0, .int .i64 0, .slice none 0 0], .struct [(0, 1), (1, 1), (2, 1), (3, 1), (4, 1)]⟩), (32, ⟨true, 6, [.int .i64 0, .int .i64 0, .int .i64 0, .int .i64 0, .int .i64 0, .slice none 0 0], .struct [(0, 1), (1, 1), (2, 1), (3, 1), (4, 1), (5, 1)]⟩), (35, ⟨true, 7, [.int .i64 0, .int .i64 0, .int .i64 0, .int .i64 0, .int .i64 0, .int .i64 0, .slice none 0 0], .struct [(0, 1), (1, 1), (2, 1), (3, 1), (4, 1), (5, 1), (6, 1)]⟩), (37, ⟨true, 6, [.int .i64 0, .int .i64 0, .int .i64 0, .int .i64 0, .int .i64 0, .slice none 0 0], .struct [(0, 1), (1, 1), (2, 1), (3, 1), (4, 1), (5, 1)]⟩), (39, ⟨false, 1, [.slice none 0 0], .slice 73 2 16⟩), (40, ⟨true, 4, [.int .i64 0, .int .i64 0, .int .i64 0, .slice none 0 0], .struct [(0, 1), (1, 1), (2, 1), (3, 1)]⟩), (42, ⟨true, 2, [.int .i64 0, .slice none 0 0], .struct [(0, 1), (1, 1)]⟩), (44, ⟨true, 5, [.bool false, .int .i64 0, .int .i64 0, .int .i64 0, .slice none 0 0], .struct [(0, 1), (1, 1), (2, 1), (3, 1), (4, 1)]⟩), (46, ⟨false, 1, [.slice none 0 0], .slice 186 5 56⟩), (47, ⟨true, 1, [.slice none 0 0], .struct [(0, 1)]⟩), (49, ⟨false, 1, [.slice none 0 0], .slice 219 3 24⟩), (50, ⟨true, 4, [.int .i64 0, .int .i64 0, .int .i64 0, .slice none 0 0], .struct [(0, 1), (1, 1), (2, 1), (3, 1)]⟩), (53, ⟨true, 5, [.int .i64 0, .int .i64 0, .int .i64 0, .int .i64 0, .slice none 0 0], .struct [(0, 1), (1, 1), (2, 1), (3, 1), (4, 1)]⟩), (55, ⟨true, 57, [.int .i64 0, .int .i64 0, .int .i64 0, .int .i64 0, .int .i64 0, .int .i64 0, .int .i64 0, .int .i64 0, .int .i64 0, .int .i64 0, .int .i64 0, .slice none 0 0, .int .i64 0, .int .i64 0, .int .i64 0, .int .i64 0, .slice none 0 0, .int .i64 0, .int .i64 0, .int .i64 0, .int .i64 0, .int .i64 0, .slice none 0 0, .int .i64 0, .int .i64 0, .int .i64 0, .int .i64 0, .int .i64 0, .int .i64 0, .slice none 0 0, .int .i64 0, .int .i64 0, .int .i64 0, .int .i64 0, .int .i64 0, .slice none 0 0, .int .i64 0, .int .i64 0, .int .i64 0, .slice none 0 0, .int .i64 0, .slice none 0 0, .bool false, .int .i64 0, .int .i64 0, .int .i64 0, .slice none 0 0, .slice none 0 0, .int .i64 0, .int .i64 0, .int .i64 0, .slice none 0 0, .int .i64 0, .int .i64 0, .int .i64 0, .int .i64 0, .slice none 0 0], .struct [(0, 8), (8, 4), (12, 5), (17, 6), (23, 7), (30, 6), (36, 4), (40, 2), (42, 5), (47, 1), (48, 4), (52, 5)]⟩), (61, ⟨false, 1, [.pointer none], .other⟩), (80, ⟨true, 3, [.int .i64 0, .int .i64 0, .int .i64 0], .struct [(0, 1), (1, 1), (2, 1)]⟩), (87, ⟨true, 2, [.int .i64 0, .int .i64 0], .struct [(0, 1), (1, 1)]⟩), (123, ⟨true, 2, [.slice none 0 0, .int .i64 0], .struct [(0, 1), (1, 1)]⟩), (124, ⟨true, 2, [.slice none 0 0, .int .i64 0], .struct [(0, 1), (1, 1)]⟩), (159, ⟨true, 4, [.int .u64 0, .int .u64 0, .int .u64 0, .int .u64 0], .array 4 1⟩), (160, ⟨true, 4, [.int .u64 0, .int .u64 0, .int .u64 0, .int .u64 0], .array 4 1⟩), (176, ⟨false, 1, [.slice none 0 0], .slice 177 1 8⟩), (177, ⟨false, 1, [.pointer none], .other⟩), (184, ⟨false, 1, [.slice none 0 0], .slice 285 2 16⟩), (185, ⟨true, 5, [.int .i64 0, .int .i64 0, .int .i64 0, .int .i64 0, .slice none 0 0], .struct [(0, 1), (1, 1), (2, 1), (3, 1), (4, 1)]⟩), (186, ⟨true, 5, [.int .i64 0, .int .i64 0, .int .i64 0, .int .i64 0, .slice none 0 0], .struct [(0, 1), (1, 1), (2, 1), (3, 1), (4, 1)]⟩), (202, ⟨true, 7, [.int .i64 0, .int .i64 0, .int .i64 0, .int .i64 0, .int .i64 0, .int .i64 0, .int .i64 0], .struct [(0, 1), (1, 1), (2, 1), (3, 1), (4, 1), (5, 1), (6, 1)]⟩), (203, ⟨true, 7, [.int .i64 0, .int .i64 0, .int .i64 0, .int .i64 0, .int .i64 0, .int .i64 0, .int .i64 0], .struct [(0, 1), (1, 1), (2, 1), (3, 1), (4, 1), (5, 1), (6, 1)]⟩), (218, ⟨true, 3, [.int .i64 0, .int .i64 0, .int .i64 0], .struct [(0, 1), (1, 1), (2, 1)]⟩), (219, ⟨true, 3, [.int .i64 0, .int .i64 0, .int .i64 0], .struct [(0, 1), (1, 1), (2, 1)]⟩), (236, ⟨false, 1, [.slice none 0 0], .slice 239 3 24⟩), (238, ⟨true, 3, [.int .i64 0, .int .i64 0, .int .i64 0], .struct [(0, 1), (1, 1), (2, 1)]⟩), (239, ⟨true, 3, [.int .i64 0, .int .i64 0, .int .i64 0], .struct [(0, 1), (1, 1), (2, 1)]⟩), (243, ⟨false, 1, [.pointer none], .other⟩), (255, ⟨false, 1, [.pointer none], .other⟩), (256, ⟨true, 3, [.slice none 0 0, .int .i64 0, .int .i64 0], .struct [(0, 1), (1, 1), (2, 1)]⟩), (257, ⟨true, 3, [.slice none 0 0, .int .i64 0, .int .i64 0], .struct [(0, 1), (1, 1), (2, 1)]⟩), (261, ⟨true, 2, [.int .i64 0, .int .i64 0], .struct [(0, 1), (1, 1)]⟩), (264, ⟨false, 1, [.int .u64 0], .other⟩), (270, ⟨true, 2, [.int .i64 0, .slice none 0 0], .struct [(0, 1), (1, 1)]⟩), (271, ⟨true, 2, [.int .i64 0, .slice none 0 0], .struct [(0, 1), (1, 1)]⟩), (272, ⟨true, 5, [.int .i64 0, .int .i64 0, .int .i64 0, .int .i64 0, .slice none 0 0], .struct [(0, 1), (1, 1), (2, 1), (3, 2)]⟩), (273, ⟨true, 5, [.int .i64 0, .int .i64 0, .int .i64 0, .int .i64 0, .slice none 0 0], .struct [(0, 1), (1, 1), (2, 1), (3, 2)]⟩), (284, ⟨true, 2, [.int .i64 0, .int .i64 0], .struct [(0, 1), (1, 1)]⟩), (285, ⟨true, 2, [.int .i64 0, .int .i64 0], .struct [(0, 1), (1, 1)]⟩), (298, ⟨true, 31, [.int .i64 0, .int .i64 0, .int .i64 0, .int .i64 0, .int .i64 0, .int .i64 0, .int .i64 0, .int .i64 0, .int .i64 0, .int .i64 0, .int .i64 0, .int .i64 0, .int .i64 0, .int .i64 0, .int .i64 0, .int .i64 0, .int .i64 0, .int .i64 0, .int .i64 0, .int .i64 0, .int .i64 0, .int .i64 0, .int .i64 0, .int .i64 0, .int .i64 0, .int .i64 0, .int .i64 0, .int .i64 0, .int .i64 0, .int .i64 0, .int .i64 0], .array 31 1⟩), (312, ⟨false, 1, [.int .i64 0], .other⟩), (321, ⟨false, 1, [.int .u32 0], .other⟩), (322, ⟨false, 1, [.int .u64 0], .other⟩), (327, ⟨false, 1, [.pointer none], .other⟩), (333, ⟨true, 0, [], .array 0 1⟩), (337, ⟨false, 1, [.int .u8 0], .other⟩), (338, ⟨false, 1, [.int .u8 0], .other⟩), (340, ⟨false, 1, [.pointer none], .other⟩), (341, ⟨false, 1, [.int .i32 0], .other⟩), (342, ⟨false, 1, [.int .i32 0], .other⟩), (343, ⟨true, 11, [.int .u64 0, .int .u64 0, .int .u32 0, .int .u8 0, .int .u8 0, .int .u8 0, .int .u8 0, .nilFunc, .pointer none, .int .i32 0, .int .i32 0], .struct [(0, 1), (1, 1), (2, 1), (3, 1), (4, 1), (5, 1), (6, 1), (7, 1), (8, 1), (9, 1), (10, 1)]⟩), (344, ⟨true, 11, [.int .u64 0, .int .u64 0, .int .u32 0, .int .u8 0, .int .u8 0, .int .u8 0, .int .u8 0, .nilFunc, .pointer none, .int .i32 0, .int .i32 0], .struct [(0, 1), (1, 1), (2, 1), (3, 1), (4, 1), (5, 1), (6, 1), (7, 1), (8, 1), (9, 1), (10, 1)]⟩)]
set_option maxRecDepth 100000 in
theorem tblB : tbB Tryz.prog tbl = true := by kernel_rfl
theorem tblOK : TbOK Tryz.prog tbl := tbB_ok tblB
theorem held73 : Tryz.prog.stoodInHeld 73 = false := by kernel_rfl
theorem guard73 : Tryz.prog.eqGuardType Tryz.prog.depth 73 = false := by kernel_rfl
theorem held68 : Tryz.prog.stoodInHeld 68 = false := by kernel_rfl
theorem guard68 : Tryz.prog.eqGuardType Tryz.prog.depth 68 = false := by kernel_rfl
theorem part_one {P : Program} {t : TypeId} {cs : Array Value} {off : Nat} {v : Value} (ha : aggB P t = some false) (h : cs[off]? = some v) (w : World) : (part t cs off).run P w = .ok v w := by
  simp [part, aggB_run ha, h]
theorem eqGuard_agg {P : Program} {op : BinOp} {t : TypeId} (hg : P.eqGuardType P.depth t = false) (p q : Operand) (xs ys : Array Value) (w : World) : (eqGuard op t p q (.agg xs) (.agg ys)).run P w = .ok () w := by
  unfold eqGuard
  split <;> simp [program, Sem.run, hg]
theorem eq2 {P : Program} {t t0 t1 : TypeId} {n0 n1 : String} {f0 f1 : Field} (hu : P.underlying t = some (.struct #[f0, f1])) (h0 : f0.offset = 0) (h1 : f1.offset = 1) (hn0 : f0.name ≠ "_") (hn1 : f1.name ≠ "_") {k0 k1 : IntKind} (ht0 : P.underlying f0.type = some (.int k0)) (ht1 : P.underlying f1.type = some (.int k1))
    (hh : P.stoodInHeld t = false) (k k' : IntKind) (a b c d : Int) (w : World) : (Op.equal t (.agg #[.int k a, .int k' b]) (.agg #[.int k c, .int k' d])).run P w = .ok (a == c && b == d) w := by
  have ha0 : aggB P f0.type = some false := by unfold aggB; rw [ht0]
  have ha1 : aggB P f1.type = some false := by unfold aggB; rw [ht1]
  have hf : P.fieldsOf t = #[f0, f1] := by unfold Program.fieldsOf; rw [hu]
  unfold Op.equal
  rw [show Op.maxDepth = 9998 + 1 + 1 from rfl, run_equalIn_struct w _ t _ _ (by rw [hf]; exact hu) hh, hf]
  simp only [Op.eqFields, hn0, hn1, ne_eq, not_false_eq_true, if_true, Sem.run_bind]
  rw [h0, h1, part_one ha0 (v := .int k a) rfl]
  simp only [Result.andThen_ok]
  rw [part_one ha0 (v := .int k c) rfl]
  simp only [Result.andThen_ok]
  rw [run_equalIn_int w _ _ k k0 a c ht0]
  simp only [Result.andThen_ok]
  cases hac : (a == c) with
  | false => simp
  | true =>
    simp only [Bool.not_true, Bool.false_eq_true, if_false]
    rw [Sem.run_bind, part_one ha1 (v := .int k' b) rfl]
    simp only [Result.andThen_ok]
    rw [Sem.run_bind, part_one ha1 (v := .int k' d) rfl]
    simp only [Result.andThen_ok]
    rw [Sem.run_bind, run_equalIn_int w _ _ k' k1 b d ht1]
    simp only [Result.andThen_ok]
    cases hbd : (b == d) <;> simp
theorem eql2 {P : Program} {t : TypeId} (hg : P.eqGuardType P.depth t = false) {xs ys : Array Value} {r : Bool} (h : ∀ w, (Op.equal t (.agg xs) (.agg ys)).run P w = .ok r w) (p q : Operand) (w : World) : (do eqGuard .eql t p q (.agg xs) (.agg ys); binOp .eql t (.agg xs) (.agg ys) : Sem Value).run P w = .ok (.bool r) w := by
  rw [Sem.run_bind, eqGuard_agg hg]
  simp [binOp, h]
theorem neq2 {P : Program} {t : TypeId} (hg : P.eqGuardType P.depth t = false) {xs ys : Array Value} {r : Bool} (h : ∀ w, (Op.equal t (.agg xs) (.agg ys)).run P w = .ok r w) (p q : Operand) (w : World) : (do eqGuard .neq t p q (.agg xs) (.agg ys); binOp .neq t (.agg xs) (.agg ys) : Sem Value).run P w = .ok (.bool (!r)) w := by
  rw [Sem.run_bind, eqGuard_agg hg]
  simp [binOp, h]
theorem eq73 (a b c d : Int) (w : World) : (Op.equal 73 (.agg #[.int .u64 a, .int .u64 b]) (.agg #[.int .u64 c, .int .u64 d])).run Tryz.prog w = .ok (a == c && b == d) w :=
  eq2 (n0 := "") (n1 := "") (t0 := 0) (t1 := 0) Tryz.underlying73 rfl rfl (by decide) (by decide) Tryz.underlying71 Tryz.underlying71 held73 .u64 .u64 a b c d w
theorem eq68 (a b c d : Int) (w : World) : (Op.equal 68 (.agg #[.int .i64 a, .int .i64 b]) (.agg #[.int .i64 c, .int .i64 d])).run Tryz.prog w = .ok (a == c && b == d) w :=
  eq2 (n0 := "") (n1 := "") (t0 := 0) (t1 := 0) Tryz.underlying68 rfl rfl (by decide) (by decide) Tryz.underlying2 Tryz.underlying2 held68 .i64 .i64 a b c d w
theorem aeql73 (a b c d : Int) (p q : Operand) (w : World) : (do eqGuard .eql 73 p q (.agg #[.int .u64 a, .int .u64 b]) (.agg #[.int .u64 c, .int .u64 d]); binOp .eql 73 (.agg #[.int .u64 a, .int .u64 b]) (.agg #[.int .u64 c, .int .u64 d]) : Sem Value).run Tryz.prog w = .ok (.bool (a == c && b == d)) w :=
  eql2 (P := Tryz.prog) guard73 (eq73 a b c d) p q w
theorem aneq73 (a b c d : Int) (p q : Operand) (w : World) : (do eqGuard .neq 73 p q (.agg #[.int .u64 a, .int .u64 b]) (.agg #[.int .u64 c, .int .u64 d]); binOp .neq 73 (.agg #[.int .u64 a, .int .u64 b]) (.agg #[.int .u64 c, .int .u64 d]) : Sem Value).run Tryz.prog w = .ok (.bool (!(a == c && b == d))) w :=
  neq2 (P := Tryz.prog) guard73 (eq73 a b c d) p q w
theorem aeql68 (a b c d : Int) (p q : Operand) (w : World) : (do eqGuard .eql 68 p q (.agg #[.int .i64 a, .int .i64 b]) (.agg #[.int .i64 c, .int .i64 d]); binOp .eql 68 (.agg #[.int .i64 a, .int .i64 b]) (.agg #[.int .i64 c, .int .i64 d]) : Sem Value).run Tryz.prog w = .ok (.bool (a == c && b == d)) w :=
  eql2 (P := Tryz.prog) guard68 (eq68 a b c d) p q w
end Go.Proofs.YtbageimconenlaaGreat
