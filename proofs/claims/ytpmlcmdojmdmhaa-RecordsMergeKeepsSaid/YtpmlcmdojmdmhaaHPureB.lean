/- The error code of a type record, and of a list of them: what records.Validate and the reference give; what a valid list is. -/
import Derived.Test.YtpmlcmdojmdmhaaHPureA
import Derived.Test.YtpmlcmdojmdmhaaPRx13
import Derived.Test.YtpmlcmdojmdmhaaPRx14
import Derived.Test.YtpmlcmdojmdmhaaPRx15
import Derived.Test.YtpmlcmdojmdmhaaPRx35
import Derived.Test.YtpmlcmdojmdmhaaPRx36
set_option linter.unusedVariables false
set_option linter.unusedSimpArgs false
namespace Go.Proofs.Ytpmlcmdojmdmhaa.PR
open Go.RowKit Go.Proofs.YtpmlcmdojmdmhaaW.PrintWords Go.Proofs.YtpmlcmdojmdmhaaW.PrintLast Go.Proofs.YtpmlcmdojmdmhaaW.PrintMore

/-- The conditions on a type record in the order in which they are looked at. -/
def P1 (t : S32) : Prop := 1 ≤ t.f0 ∧ t.f0 ≤ 4
def P2 (t : S32) : Prop := t.f1.toList = [] ∨ nameOK t.f1
def P3 (l : List S32) (t : S32) : Prop := (0 ≤ t.f2 ∧ t.f2 ≤ 1000000) ∧ (0 ≤ t.f4 ∧ t.f4 ≤ 1000000) ∧ (0 ≤ t.f3 ∧ t.f3 < (l.length : Int))
def P4 (t : S32) : Prop := (t.f4 ≠ 0 → t.f0 = 3) ∧ (0 < t.f5.length → t.f0 = 4) ∧ (t.f3 ≠ 0 → t.f0 ≠ 1 ∧ t.f0 ≠ 4)
def P5 (t : S32) : Prop := (t.f0 = 1 → t.f2 = 1 ∨ t.f2 = 4) ∧ (t.f0 = 2 → t.f2 = 4)
def P6 (i : Int) (t : S32) : Prop := t.f0 = 3 → t.f3 < i
def P7 (l : List S32) (t : S32) : Prop := t.f0 = 3 → t.f2 = t.f4 * sz l t.f3
instance (t) : Decidable (P1 t) := by unfold P1; infer_instance
instance (t) : Decidable (P2 t) := by unfold P2; infer_instance
instance (l t) : Decidable (P3 l t) := by unfold P3; infer_instance
instance (t) : Decidable (P4 t) := by unfold P4; infer_instance
instance (t) : Decidable (P5 t) := by unfold P5; infer_instance
instance (i t) : Decidable (P6 i t) := by unfold P6; infer_instance
instance (l t) : Decidable (P7 l t) := by unfold P7; infer_instance
def code (l : List S32) (i : Int) (t : S32) : Int :=
  if ¬ P1 t then 4 else if ¬ P2 t then 12 else if ¬ P3 l t then 3 else if ¬ P4 t then 5 else if ¬ P5 t then 9 else if ¬ P6 i t then 3 else if ¬ P7 l t then 9 else
  if t.f5.length > 8 then 2 else fieldsCode l i t t.f5.length 0 0

structure Cx (l : List S32) (i : Nat) : Prop where
  hi : i < l.length
  hl : l.length ≤ 30
  w : WfT (l.getD i z32)
  hS : ∀ j : Int, 0 ≤ j → j < i → 0 ≤ sz l j ∧ sz l j ≤ 1000000
theorem Cx.ctx {l : List S32} {i : Nat} (c : Cx l i) (h : P3 l (l.getD i z32)) (h8 : ¬ (l.getD i z32).f5.length > 8) : Ctx l i := ⟨c.hi, c.hl, c.w, c.hS, h.1.1, h.1.2, by omega⟩
theorem EndOf.zero (l : List S32) (i : Nat) (t : S32) : EndOf l i t 0 0 := ⟨by omega, by omega, fun _ => rfl, fun p h => by omega⟩

section
variable {l : List S32} {i : Nat} {t : S32} (c : Cx l i) (ht : l.getD i z32 = t)
include c ht
theorem check_j6 (b : Bool) (h3 : P3 l t) (hb : b = true ↔ ¬ P7 l t) :
    Ev (fun k => records_check.j6 k l (i : Int) b t.f0 t.f1 t.f2 t.f3 t.f4 t.f5) (if ¬ P7 l t then 9 else if t.f5.length > 8 then 2 else fieldsCode l i t t.f5.length 0 0) := by
  subst ht
  refine Ev.step (fun k => by simp only [records_check.j6]; rfl) ?_
  by_cases h7 : P7 l (l.getD i z32)
  · rw [if_neg (by simpa using h7)]
    refine Ev.congr (fun k => if_neg (by rw [hb]; simpa using h7)) ?_
    by_cases h8 : (l.getD i z32).f5.length > 8
    · rw [if_pos h8]
      exact Ev.congr (fun k => if_pos (by omega)) (Ev.now _)
    · rw [if_neg h8]
      refine Ev.congr (fun k => if_neg (by omega)) ?_
      exact check_l0 l i (c.ctx h3 h8) _ 0 (by omega) 0 (EndOf.zero _ _ _)
  · rw [if_pos h7]
    exact Ev.congr (fun k => if_pos (by rw [hb]; exact h7)) (Ev.now _)
theorem check_j5 (b : Bool) (h3 : P3 l t) (hb : b = true ↔ ¬ P6 i t) :
    Ev (fun k => records_check.j5 k l (i : Int) b t.f0 t.f1 t.f2 t.f3 t.f4 t.f5) (if ¬ P6 i t then 3 else if ¬ P7 l t then 9 else if t.f5.length > 8 then 2 else fieldsCode l i t t.f5.length 0 0) := by
  have hi := c.hi
  have hl := c.hl
  refine Ev.step (fun k => by simp only [records_check.j5]; rfl) ?_
  by_cases h6 : P6 i t
  · rw [if_neg (by simpa using h6)]
    refine Ev.congr (fun k => if_neg (by rw [hb]; simpa using h6)) ?_
    by_cases h : t.f0 = 3
    · have hz := c.hS t.f3 h3.2.2.1 (h6 h)
      have h4a := h3.2.1.1
      have h4b := h3.2.1.2
      have hw : wrap64 (t.f4 * sz l t.f3) = t.f4 * sz l t.f3 := by
        have m1 : 0 ≤ t.f4 * sz l t.f3 := Int.mul_nonneg h4a hz.1
        have m2 : t.f4 * sz l t.f3 ≤ 1000000 * 1000000 := Int.mul_le_mul h4b hz.2 hz.1 (by omega)
        exact w64 (by omega) (by omega)
      refine Ev.congr (fun k => by rw [if_pos h, if_pos h3.2.2.1, if_pos h3.2.2.2]) ?_
      exact check_j6 c ht _ h3 (by rw [show (rd_T32 l t.f3).f2 = sz l t.f3 from rfl, hw]; simp [P7, h])
    · refine Ev.congr (fun k => if_neg h) ?_
      exact check_j6 c ht _ h3 (by simp [P7, h])
  · rw [if_pos h6]
    exact Ev.congr (fun k => if_pos (by rw [hb]; exact h6)) (Ev.now _)
theorem check_j4 (b : Bool) (h3 : P3 l t) (hb : b = true ↔ ¬ P5 t) :
    Ev (fun k => records_check.j4 k l (i : Int) b t.f0 t.f1 t.f2 t.f3 t.f4 t.f5) (if ¬ P5 t then 9 else if ¬ P6 i t then 3 else if ¬ P7 l t then 9 else if t.f5.length > 8 then 2 else fieldsCode l i t t.f5.length 0 0) := by
  refine Ev.step (fun k => by simp only [records_check.j4]; rfl) ?_
  by_cases h5 : P5 t
  · rw [if_neg (by simpa using h5)]
    refine Ev.congr (fun k => if_neg (by rw [hb]; simpa using h5)) ?_
    by_cases h : t.f0 = 3
    · exact Ev.congr (fun k => if_pos h) (check_j5 c ht _ h3 (by simp [P6, h]))
    · exact Ev.congr (fun k => if_neg h) (check_j5 c ht _ h3 (by simp [P6, h]))
  · rw [if_pos h5]
    exact Ev.congr (fun k => if_pos (by rw [hb]; exact h5)) (Ev.now _)
theorem check_j3 (b : Bool) (h3 : P3 l t) (hb : b = true ↔ ¬ P4 t) :
    Ev (fun k => records_check.j3 k l (i : Int) b t.f0 t.f1 t.f2 t.f3 t.f4 t.f5) (if ¬ P4 t then 5 else if ¬ P5 t then 9 else if ¬ P6 i t then 3 else if ¬ P7 l t then 9 else if t.f5.length > 8 then 2 else fieldsCode l i t t.f5.length 0 0) := by
  refine Ev.step (fun k => by simp only [records_check.j3]; rfl) ?_
  by_cases h4 : P4 t
  · rw [if_neg (by simpa using h4)]
    refine Ev.congr (fun k => if_neg (by rw [hb]; simpa using h4)) ?_
    have hg : ∀ b : Bool, (b = true ↔ ¬ P5 t) → Ev (fun k => records_check.j4 k l (i : Int) b t.f0 t.f1 t.f2 t.f3 t.f4 t.f5) (if ¬ P5 t then 9 else if ¬ P6 i t then 3 else if ¬ P7 l t then 9 else if t.f5.length > 8 then 2 else fieldsCode l i t t.f5.length 0 0) := fun b hb => check_j4 c ht b h3 hb
    by_cases h1 : t.f0 = 1
    · have hn : ¬ t.f0 = 2 := by omega
      by_cases a : t.f2 = 1
      · exact Ev.congr (fun k => by rw [if_pos h1, if_pos a, if_neg hn]) (hg _ (by simp [P5, h1, a]))
      · by_cases b' : t.f2 = 4
        · exact Ev.congr (fun k => by rw [if_pos h1, if_neg a, if_pos b', if_neg hn]) (hg _ (by simp [P5, h1, b']))
        · exact Ev.congr (fun k => by rw [if_pos h1, if_neg a, if_neg b']) (hg _ (by simp [P5, h1, a, b']))
    · by_cases h2 : t.f0 = 2
      · exact Ev.congr (fun k => by rw [if_neg h1, if_pos h2]) (hg _ (by simp [P5, h2]))
      · exact Ev.congr (fun k => by rw [if_neg h1, if_neg h2]) (hg _ (by simp [P5, h1, h2]))
  · rw [if_pos h4]
    exact Ev.congr (fun k => if_pos (by rw [hb]; exact h4)) (Ev.now _)
theorem check_j2 (b : Bool) (hb : b = true ↔ ¬ P3 l t) :
    Ev (fun k => records_check.j2 k l (i : Int) b t.f0 t.f1 t.f2 t.f3 t.f4 t.f5) (if ¬ P3 l t then 3 else if ¬ P4 t then 5 else if ¬ P5 t then 9 else if ¬ P6 i t then 3 else if ¬ P7 l t then 9 else if t.f5.length > 8 then 2 else fieldsCode l i t t.f5.length 0 0) := by
  refine Ev.step (fun k => by simp only [records_check.j2]; rfl) ?_
  by_cases h3 : P3 l t
  · rw [if_neg (by simpa using h3)]
    refine Ev.congr (fun k => if_neg (by rw [hb]; simpa using h3)) ?_
    have hg : ∀ b : Bool, (b = true ↔ ¬ P4 t) → Ev (fun k => records_check.j3 k l (i : Int) b t.f0 t.f1 t.f2 t.f3 t.f4 t.f5) (if ¬ P4 t then 5 else if ¬ P5 t then 9 else if ¬ P6 i t then 3 else if ¬ P7 l t then 9 else if t.f5.length > 8 then 2 else fieldsCode l i t t.f5.length 0 0) := fun b hb => check_j3 c ht b h3 hb
    by_cases a3 : t.f0 = 3 <;> by_cases a4 : t.f0 = 4 <;> by_cases a1 : t.f0 = 1 <;> by_cases z4 : t.f4 = 0 <;> by_cases hf : (t.f5.length : Int) > 0 <;>
      first
      | omega
      | (refine Ev.congr (fun k => by simp only [a3, a4, a1, z4, hf, if_true, if_false, reduceIte, Int.reduceEq]; rfl) (hg _ ?_)
         unfold P4
         simp only [bne_iff_ne, ne_eq, true_iff, false_iff, Bool.false_eq_true]
         omega)
      | (refine Ev.congr (fun k => by simp only [a3, a4, a1, z4, hf, if_true, if_false, reduceIte, Int.reduceEq]) (hg _ ?_)
         unfold P4
         simp only [bne_iff_ne, ne_eq, true_iff, false_iff, Bool.false_eq_true]
         omega)
  · rw [if_pos h3]
    exact Ev.congr (fun k => if_pos (by rw [hb]; exact h3)) (Ev.now _)
theorem check_j1 (b : Bool) (hb : b = true ↔ ¬ P2 t) :
    Ev (fun k => records_check.j1 k l (i : Int) b t.f0 t.f1 t.f2 t.f3 t.f4 t.f5) (if ¬ P2 t then 12 else if ¬ P3 l t then 3 else if ¬ P4 t then 5 else if ¬ P5 t then 9 else if ¬ P6 i t then 3 else if ¬ P7 l t then 9 else if t.f5.length > 8 then 2 else fieldsCode l i t t.f5.length 0 0) := by
  refine Ev.step (fun k => by simp only [records_check.j1]; rfl) ?_
  by_cases h2 : P2 t
  · rw [if_neg (by simpa using h2)]
    refine Ev.congr (fun k => if_neg (by rw [hb]; simpa using h2)) ?_
    have hg : ∀ b : Bool, (b = true ↔ ¬ P3 l t) → Ev (fun k => records_check.j2 k l (i : Int) b t.f0 t.f1 t.f2 t.f3 t.f4 t.f5) (if ¬ P3 l t then 3 else if ¬ P4 t then 5 else if ¬ P5 t then 9 else if ¬ P6 i t then 3 else if ¬ P7 l t then 9 else if t.f5.length > 8 then 2 else fieldsCode l i t t.f5.length 0 0) := fun b hb => check_j2 c ht b hb
    by_cases a1 : t.f2 < 0
    · exact Ev.congr (fun k => if_pos a1) (hg _ (by simp [P3]; omega))
    refine Ev.congr (fun k => if_neg a1) ?_
    by_cases a2 : t.f2 > 1000000
    · exact Ev.congr (fun k => if_pos a2) (hg _ (by simp [P3]; omega))
    refine Ev.congr (fun k => if_neg a2) ?_
    by_cases a3 : t.f4 < 0
    · exact Ev.congr (fun k => if_pos a3) (hg _ (by simp [P3]; omega))
    refine Ev.congr (fun k => if_neg a3) ?_
    by_cases a4 : t.f4 > 1000000
    · exact Ev.congr (fun k => if_pos a4) (hg _ (by simp [P3]; omega))
    refine Ev.congr (fun k => if_neg a4) ?_
    by_cases a5 : t.f3 < 0
    · exact Ev.congr (fun k => if_pos a5) (hg _ (by simp [P3]; omega))
    exact Ev.congr (fun k => if_neg a5) (hg _ (by simp [P3]; omega))
  · rw [if_pos h2]
    exact Ev.congr (fun k => if_pos (by rw [hb]; exact h2)) (Ev.now _)
theorem check_j0 (b : Bool) (hb : b = true ↔ ¬ P1 t) :
    Ev (fun k => records_check.j0 k l (i : Int) b t.f0 t.f1 t.f2 t.f3 t.f4 t.f5) (code l i t) := by
  refine Ev.step (fun k => by simp only [records_check.j0]; rfl) ?_
  unfold code
  by_cases h1 : P1 t
  · rw [if_neg (by simpa using h1)]
    refine Ev.congr (fun k => if_neg (by rw [hb]; simpa using h1)) ?_
    by_cases hn : t.f1.toList = ([] : List UInt8)
    · exact Ev.congr (fun k => if_pos hn) (check_j1 c ht _ (by simp [P2, hn]))
    · refine Ev.congr (fun k => if_neg hn) (Ev.bind (isName_ev _ (by rw [← ht]; exact c.w.n1)) ?_)
      exact check_j1 c ht _ (by simp [P2, hn])
  · rw [if_pos h1]
    exact Ev.congr (fun k => if_pos (by rw [hb]; exact h1)) (Ev.now _)
theorem check_ev : Ev (fun k => records_check.f k l (i : Int)) (code l i t) := by
  have hi := c.hi
  have e : rd_T32 l (i : Int) = t := by rw [rd_T32_nat]; exact ht
  unfold records_check.f
  rw [e]
  refine Ev.congr (fun k => by rw [if_pos (by omega), if_pos (by omega)]) ?_
  by_cases h : t.f0 < 1
  · exact Ev.congr (fun k => if_pos h) (check_j0 c ht _ (by simp [P1]; omega))
  · exact Ev.congr (fun k => if_neg h) (check_j0 c ht _ (by simp [P1]; omega))

theorem type_j5 (b : Bool) (h3 : P3 l t) (hb : b = true ↔ ¬ P7 l t) :
    Ev (fun k => linkhouseref2_TypeCode.j5 k l (i : Int) b t.f0 t.f1 t.f2 t.f3 t.f4 t.f5) (if ¬ P7 l t then 9 else if t.f5.length > 8 then 2 else fieldsCode l i t t.f5.length 0 0) := by
  subst ht
  refine Ev.step (fun k => by simp only [linkhouseref2_TypeCode.j5]; rfl) ?_
  by_cases h7 : P7 l (l.getD i z32)
  · rw [if_neg (by simpa using h7)]
    refine Ev.congr (fun k => if_neg (by rw [hb]; simpa using h7)) ?_
    by_cases h8 : (l.getD i z32).f5.length > 8
    · rw [if_pos h8]
      exact Ev.congr (fun k => if_pos (by omega)) (Ev.now _)
    · rw [if_neg h8]
      refine Ev.congr (fun k => if_neg (by omega)) ?_
      exact type_l0 l i (c.ctx h3 h8) _ 0 (by omega) 0 (EndOf.zero _ _ _)
  · rw [if_pos h7]
    exact Ev.congr (fun k => if_pos (by rw [hb]; exact h7)) (Ev.now _)
theorem type_j4 (b : Bool) (h3 : P3 l t) (hb : b = true ↔ ¬ P6 i t) :
    Ev (fun k => linkhouseref2_TypeCode.j4 k l (i : Int) b t.f0 t.f1 t.f2 t.f3 t.f4 t.f5) (if ¬ P6 i t then 3 else if ¬ P7 l t then 9 else if t.f5.length > 8 then 2 else fieldsCode l i t t.f5.length 0 0) := by
  have hi := c.hi
  have hl := c.hl
  refine Ev.step (fun k => by simp only [linkhouseref2_TypeCode.j4]; rfl) ?_
  by_cases h6 : P6 i t
  · rw [if_neg (by simpa using h6)]
    refine Ev.congr (fun k => if_neg (by rw [hb]; simpa using h6)) ?_
    by_cases h : t.f0 = 3
    · have hz := c.hS t.f3 h3.2.2.1 (h6 h)
      have h4a := h3.2.1.1
      have h4b := h3.2.1.2
      have hw : wrap64 (t.f4 * sz l t.f3) = t.f4 * sz l t.f3 := by
        have m1 : 0 ≤ t.f4 * sz l t.f3 := Int.mul_nonneg h4a hz.1
        have m2 : t.f4 * sz l t.f3 ≤ 1000000 * 1000000 := Int.mul_le_mul h4b hz.2 hz.1 (by omega)
        exact w64 (by omega) (by omega)
      refine Ev.congr (fun k => by rw [if_pos h, if_pos h3.2.2.1, if_pos h3.2.2.2]) ?_
      exact type_j5 c ht _ h3 (by rw [show (rd_T32 l t.f3).f2 = sz l t.f3 from rfl, hw]; simp [P7, h])
    · refine Ev.congr (fun k => if_neg h) ?_
      exact type_j5 c ht _ h3 (by simp [P7, h])
  · rw [if_pos h6]
    exact Ev.congr (fun k => if_pos (by rw [hb]; exact h6)) (Ev.now _)
theorem type_j3 (b : Bool) (h3 : P3 l t) (hb : b = true ↔ ¬ P5 t) :
    Ev (fun k => linkhouseref2_TypeCode.j3 k l (i : Int) b t.f0 t.f1 t.f2 t.f3 t.f4 t.f5) (if ¬ P5 t then 9 else if ¬ P6 i t then 3 else if ¬ P7 l t then 9 else if t.f5.length > 8 then 2 else fieldsCode l i t t.f5.length 0 0) := by
  refine Ev.step (fun k => by simp only [linkhouseref2_TypeCode.j3]; rfl) ?_
  by_cases h5 : P5 t
  · rw [if_neg (by simpa using h5)]
    refine Ev.congr (fun k => if_neg (by rw [hb]; simpa using h5)) ?_
    by_cases h : t.f0 = 3
    · exact Ev.congr (fun k => if_pos h) (type_j4 c ht _ h3 (by simp [P6, h]))
    · exact Ev.congr (fun k => if_neg h) (type_j4 c ht _ h3 (by simp [P6, h]))
  · rw [if_pos h5]
    exact Ev.congr (fun k => if_pos (by rw [hb]; exact h5)) (Ev.now _)
theorem type_j2 (b : Bool) (h3 : P3 l t) (hb : b = true ↔ ¬ P4 t) :
    Ev (fun k => linkhouseref2_TypeCode.j2 k l (i : Int) b t.f0 t.f1 t.f2 t.f3 t.f4 t.f5) (if ¬ P4 t then 5 else if ¬ P5 t then 9 else if ¬ P6 i t then 3 else if ¬ P7 l t then 9 else if t.f5.length > 8 then 2 else fieldsCode l i t t.f5.length 0 0) := by
  refine Ev.step (fun k => by simp only [linkhouseref2_TypeCode.j2]; rfl) ?_
  by_cases h4 : P4 t
  · rw [if_neg (by simpa using h4)]
    refine Ev.congr (fun k => if_neg (by rw [hb]; simpa using h4)) ?_
    have hg : ∀ b : Bool, (b = true ↔ ¬ P5 t) → Ev (fun k => linkhouseref2_TypeCode.j3 k l (i : Int) b t.f0 t.f1 t.f2 t.f3 t.f4 t.f5) (if ¬ P5 t then 9 else if ¬ P6 i t then 3 else if ¬ P7 l t then 9 else if t.f5.length > 8 then 2 else fieldsCode l i t t.f5.length 0 0) := fun b hb => type_j3 c ht b h3 hb
    by_cases h1 : t.f0 = 1
    · have hn : ¬ t.f0 = 2 := by omega
      by_cases a : t.f2 = 1
      · exact Ev.congr (fun k => by rw [if_pos h1, if_pos a, if_neg hn]) (hg _ (by simp [P5, h1, a]))
      · by_cases b' : t.f2 = 4
        · exact Ev.congr (fun k => by rw [if_pos h1, if_neg a, if_pos b', if_neg hn]) (hg _ (by simp [P5, h1, b']))
        · exact Ev.congr (fun k => by rw [if_pos h1, if_neg a, if_neg b']) (hg _ (by simp [P5, h1, a, b']))
    · by_cases h2 : t.f0 = 2
      · exact Ev.congr (fun k => by rw [if_neg h1, if_pos h2]) (hg _ (by simp [P5, h2]))
      · exact Ev.congr (fun k => by rw [if_neg h1, if_neg h2]) (hg _ (by simp [P5, h1, h2]))
  · rw [if_pos h4]
    exact Ev.congr (fun k => if_pos (by rw [hb]; exact h4)) (Ev.now _)
theorem type_j1 (b : Bool) (hb : b = true ↔ ¬ P3 l t) :
    Ev (fun k => linkhouseref2_TypeCode.j1 k l (i : Int) b t.f0 t.f1 t.f2 t.f3 t.f4 t.f5) (if ¬ P3 l t then 3 else if ¬ P4 t then 5 else if ¬ P5 t then 9 else if ¬ P6 i t then 3 else if ¬ P7 l t then 9 else if t.f5.length > 8 then 2 else fieldsCode l i t t.f5.length 0 0) := by
  refine Ev.step (fun k => by simp only [linkhouseref2_TypeCode.j1]; rfl) ?_
  by_cases h3 : P3 l t
  · rw [if_neg (by simpa using h3)]
    refine Ev.congr (fun k => if_neg (by rw [hb]; simpa using h3)) ?_
    have hg : ∀ b : Bool, (b = true ↔ ¬ P4 t) → Ev (fun k => linkhouseref2_TypeCode.j2 k l (i : Int) b t.f0 t.f1 t.f2 t.f3 t.f4 t.f5) (if ¬ P4 t then 5 else if ¬ P5 t then 9 else if ¬ P6 i t then 3 else if ¬ P7 l t then 9 else if t.f5.length > 8 then 2 else fieldsCode l i t t.f5.length 0 0) := fun b hb => type_j2 c ht b h3 hb
    by_cases a3 : t.f0 = 3 <;> by_cases a4 : t.f0 = 4 <;> by_cases a1 : t.f0 = 1 <;> by_cases z3 : t.f3 = 0 <;> by_cases z4 : t.f4 = 0 <;> by_cases hf : (t.f5.length : Int) > 0 <;>
      first
      | omega
      | (refine Ev.congr (fun k => by simp only [a3, a4, a1, z3, z4, hf, if_true, if_false, reduceIte, Int.reduceEq]; rfl) (hg _ ?_)
         unfold P4
         simp only [beq_iff_eq, bne_iff_ne, ne_eq, true_iff, false_iff, Bool.false_eq_true]
         omega)
      | (refine Ev.congr (fun k => by simp only [a3, a4, a1, z3, z4, hf, if_true, if_false, reduceIte, Int.reduceEq]) (hg _ ?_)
         unfold P4
         simp only [beq_iff_eq, bne_iff_ne, ne_eq, true_iff, false_iff, Bool.false_eq_true]
         omega)
  · rw [if_pos h3]
    exact Ev.congr (fun k => if_pos (by rw [hb]; exact h3)) (Ev.now _)
theorem type_j0 (b : Bool) (hb : b = true ↔ ¬ P2 t) :
    Ev (fun k => linkhouseref2_TypeCode.j0 k l (i : Int) b t.f0 t.f1 t.f2 t.f3 t.f4 t.f5) (if ¬ P2 t then 12 else if ¬ P3 l t then 3 else if ¬ P4 t then 5 else if ¬ P5 t then 9 else if ¬ P6 i t then 3 else if ¬ P7 l t then 9 else if t.f5.length > 8 then 2 else fieldsCode l i t t.f5.length 0 0) := by
  have hi := c.hi
  have hl := c.hl
  refine Ev.step (fun k => by simp only [linkhouseref2_TypeCode.j0]; rfl) ?_
  by_cases h2 : P2 t
  · rw [if_neg (by simpa using h2)]
    refine Ev.congr (fun k => by rw [if_neg (by rw [hb]; simpa using h2), in_eq, in_eq, in_eq, w64 (by omega) (by omega)]) ?_
    by_cases a1 : 0 ≤ t.f2 ∧ t.f2 ≤ 1000000
    · by_cases a2 : 0 ≤ t.f4 ∧ t.f4 ≤ 1000000
      · refine Ev.congr (fun k => by simp only [Option.bind_some]; rw [if_pos (by simpa using a1), if_pos (by simpa using a2)]) (type_j1 c ht _ ?_)
        simp [P3]; omega
      · refine Ev.congr (fun k => by simp only [Option.bind_some]; rw [if_pos (by simpa using a1), if_neg (by simp only [decide_eq_true_eq]; exact a2)]) (type_j1 c ht _ ?_)
        simp [P3]; omega
    · refine Ev.congr (fun k => by simp only [Option.bind_some]; rw [if_neg (by simp only [decide_eq_true_eq]; exact a1)]) (type_j1 c ht _ ?_)
      simp [P3]; omega
  · rw [if_pos h2]
    exact Ev.congr (fun k => if_pos (by rw [hb]; exact h2)) (Ev.now _)
theorem type_ev : Ev (fun k => linkhouseref2_TypeCode.f k l (i : Int)) (code l i t) := by
  have hi := c.hi
  have e : rd_T32 l (i : Int) = t := by rw [rd_T32_nat]; exact ht
  unfold linkhouseref2_TypeCode.f
  rw [e]
  refine Ev.congr (fun k => by rw [if_pos (by omega), if_pos (by omega), in_eq]) ?_
  unfold code
  by_cases h : P1 t
  · rw [if_neg (by simpa using h)]
    refine Ev.congr (fun k => if_pos (by simpa [P1] using h)) ?_
    by_cases hn : t.f1.toList = ([] : List UInt8)
    · exact Ev.congr (fun k => if_pos hn) (type_j0 c ht _ (by simp [P2, hn]))
    · refine Ev.congr (fun k => if_neg hn) (Ev.bind (name_ev _ (by rw [← ht]; exact c.w.n1)) ?_)
      exact type_j0 c ht _ (by simp [P2, hn])
  · rw [if_pos h]
    exact Ev.congr (fun k => if_neg (by simp only [decide_eq_true_eq]; exact h)) (Ev.now _)
end

/-! ### lists -/
def WfL (l : List S32) : Prop := ∀ i, i < l.length → WfT (l.getD i z32)
def Good (l : List S32) (i : Nat) : Prop := code l i (l.getD i z32) = 0
theorem good_P3 {l : List S32} {i : Nat} (h : Good l i) : P3 l (l.getD i z32) := by
  unfold Good code at h
  by_cases a1 : P1 (l.getD i z32)
  · rw [if_neg (by simpa using a1)] at h
    by_cases a2 : P2 (l.getD i z32)
    · rw [if_neg (by simpa using a2)] at h
      by_cases a3 : P3 l (l.getD i z32)
      · exact a3
      · rw [if_pos a3] at h; omega
    · rw [if_pos a2] at h; omega
  · rw [if_pos a1] at h; omega
theorem sz_nat (l : List S32) (i : Nat) : sz l (i : Int) = (l.getD i z32).f2 := by unfold sz; rw [rd_T32_nat]
theorem Cx.of {l : List S32} (hw : WfL l) (hl : l.length ≤ 30) {i : Nat} (hi : i < l.length) (hg : ∀ j, j < i → Good l j) : Cx l i :=
  ⟨hi, hl, hw i hi, fun j h0 h1 => by
    obtain ⟨m, rfl⟩ := Int.eq_ofNat_of_zero_le h0
    rw [sz_nat]
    exact (good_P3 (hg m (by omega))).1⟩
/-- The first fault of a list of types from i on (d: what is left). -/
def faults (l : List S32) : Nat → Nat → Int × Int
  | 0, _ => (0, 0)
  | d + 1, i => if code l i (l.getD i z32) = 0 then faults l d (i + 1) else (code l i (l.getD i z32), (i : Int))
def fault (l : List S32) : Int × Int := if (l.length : Int) > 30 then (2, -1) else faults l l.length 0
theorem validate_l0 {l : List S32} (hw : WfL l) (hl : l.length ≤ 30) : ∀ d i : Nat, i + d = l.length → (∀ j, j < i → Good l j) →
    Ev (fun k => records_Validate.l0 k l (l.length : Int) (i : Int)) (faults l d i) := by
  intro d
  induction d with
  | zero =>
    intro i hi hg
    refine Ev.step (f := fun _ => some (0, 0)) (fun k => ?_) (Ev.now _)
    simp only [records_Validate.l0]
    rw [if_neg (by omega)]
  | succ d ih =>
    intro i hi hg
    refine Ev.step (fun k => by simp only [records_Validate.l0]; rw [if_pos (by omega)]) ?_
    refine Ev.bind (check_ev (Cx.of hw hl (by omega) hg) rfl) ?_
    unfold faults
    by_cases h0 : code l i (l.getD i z32) = 0
    · rw [if_pos h0]
      refine Ev.congr (fun k => by rw [if_pos h0, w64 (by omega) (by omega)]; rfl) (ih (i + 1) (by omega) (fun j hj => ?_))
      by_cases e : j = i
      · subst e; exact h0
      · exact hg j (by omega)
    · rw [if_neg h0]
      exact Ev.congr (fun k => if_neg h0) (Ev.now _)
theorem validate_ev {l : List S32} (hw : WfL l) : Ev (fun k => records_Validate.f k l) (fault l) := by
  unfold records_Validate.f fault
  by_cases h : (l.length : Int) > 30
  · rw [if_pos h]; exact Ev.congr (fun k => if_pos h) (Ev.now _)
  · rw [if_neg h]
    exact Ev.congr (fun k => if_neg h) (validate_l0 hw (by omega) _ 0 (by omega) (fun j hj => by omega))
theorem typesFault_l0 {l : List S32} (hw : WfL l) (hl : l.length ≤ 30) : ∀ d i : Nat, i + d = l.length → (∀ j, j < i → Good l j) →
    Ev (fun k => linkhouseref2_TypesFault.l0 k l (i : Int)) (faults l d i) := by
  intro d
  induction d with
  | zero =>
    intro i hi hg
    refine Ev.step (f := fun _ => some (0, 0)) (fun k => ?_) (Ev.now _)
    simp only [linkhouseref2_TypesFault.l0]
    rw [if_neg (by omega)]
  | succ d ih =>
    intro i hi hg
    have ht := type_ev (Cx.of hw hl (by omega : i < l.length) hg) rfl
    refine Ev.step (fun k => by simp only [linkhouseref2_TypesFault.l0]; rw [if_pos (by omega)]) ?_
    refine Ev.bind ht ?_
    unfold faults
    by_cases h0 : code l i (l.getD i z32) = 0
    · rw [if_pos h0]
      refine Ev.congr (fun k => by rw [if_pos h0, w64 (by omega) (by omega)]; rfl) (ih (i + 1) (by omega) (fun j hj => ?_))
      by_cases e : j = i
      · subst e; exact h0
      · exact hg j (by omega)
    · rw [if_neg h0]
      refine Ev.congr (fun k => if_neg h0) (Ev.bind ht ?_)
      exact Ev.congr (fun k => by simp [linkhouseref1_At.f]) (Ev.now _)
theorem typesFault_ev {l : List S32} (hw : WfL l) : Ev (fun k => linkhouseref2_TypesFault.f k l) (fault l) := by
  unfold linkhouseref2_TypesFault.f fault
  by_cases h : (l.length : Int) > 30
  · rw [if_pos h]; exact Ev.congr (fun k => by rw [if_pos h]; simp [linkhouseref1_At.f]) (Ev.now _)
  · rw [if_neg h]
    exact Ev.congr (fun k => if_neg h) (typesFault_l0 hw (by omega) _ 0 (by omega) (fun j hj => by omega))

/-- A valid list of types. -/
def Valid (l : List S32) : Prop := l.length ≤ 30 ∧ ∀ i, i < l.length → Good l i
theorem faults_zero (l : List S32) : ∀ d i : Nat, i + d = l.length → ((faults l d i).1 = 0 ↔ ∀ j, i ≤ j → j < l.length → Good l j) := by
  intro d
  induction d with
  | zero => intro i hi; exact ⟨fun _ j h1 h2 => by omega, fun _ => rfl⟩
  | succ d ih =>
    intro i hi
    unfold faults
    by_cases h0 : code l i (l.getD i z32) = 0
    · rw [if_pos h0, ih (i + 1) (by omega)]
      exact ⟨fun h j h1 h2 => by
        by_cases e : j = i
        · subst e; exact h0
        · exact h j (by omega) h2, fun h j h1 h2 => h j (by omega) h2⟩
    · rw [if_neg h0]
      exact ⟨fun h => absurd h h0, fun h => absurd (h i (by omega) (by omega)) h0⟩
theorem faults_snd (l : List S32) : ∀ d i : Nat, (faults l d i).1 = 0 → faults l d i = (0, 0) := by
  intro d
  induction d with
  | zero => intro i _; rfl
  | succ d ih =>
    intro i h
    unfold faults at h ⊢
    by_cases h0 : code l i (l.getD i z32) = 0
    · rw [if_pos h0] at h ⊢; exact ih (i + 1) h
    · rw [if_neg h0] at h; exact absurd h h0
theorem fault_zero {l : List S32} : (fault l).1 = 0 ↔ Valid l := by
  unfold fault Valid
  by_cases h : (l.length : Int) > 30
  · rw [if_pos h]; exact ⟨fun h => by omega, fun h => by omega⟩
  · rw [if_neg h, faults_zero l _ 0 (by omega)]
    exact ⟨fun h' => ⟨by omega, fun i hi => h' i (by omega) hi⟩, fun h' j _ h2 => h'.2 j h2⟩
theorem fault_snd {l : List S32} (h : (fault l).1 = 0) : fault l = (0, 0) := by
  unfold fault at h ⊢
  by_cases h' : (l.length : Int) > 30
  · rw [if_pos h'] at h; omega
  · rw [if_neg h'] at h ⊢; exact faults_snd l _ _ h
theorem fault_valid {l : List S32} (h : Valid l) : fault l = (0, 0) := fault_snd (fault_zero.2 h)
/-- The fault of a list of types and a number. -/
def fault2 (l : List S32) (t : Int) : Int × Int := if (fault l).1 = 0 then (if 0 ≤ t ∧ t < (l.length : Int) then (0, 0) else (3, -2)) else fault l
theorem checkType_ev {l : List S32} (hw : WfL l) (t : Int) : Ev (fun k => records_checkType.f k l t) (fault2 l t) := by
  unfold records_checkType.f fault2
  refine Ev.bind (validate_ev hw) ?_
  by_cases h : (fault l).1 = 0
  · rw [if_pos h, fault_snd h]
    refine Ev.congr (fun k => if_neg (by simp)) ?_
    by_cases a : t < 0
    · rw [if_neg (show ¬ (0 ≤ t ∧ t < (l.length : Int)) from by omega)]; exact Ev.congr (fun k => if_pos a) (Ev.now _)
    · refine Ev.congr (fun k => if_neg a) ?_
      by_cases b : t ≥ (l.length : Int)
      · rw [if_neg (show ¬ (0 ≤ t ∧ t < (l.length : Int)) from by omega)]; exact Ev.congr (fun k => if_pos b) (Ev.now _)
      · rw [if_pos (show 0 ≤ t ∧ t < (l.length : Int) from by omega)]; exact Ev.congr (fun k => if_neg b) (Ev.now _)
  · rw [if_neg h]
    exact Ev.congr (fun k => if_pos (by simp [h])) (Ev.now _)
theorem typeFault_ev {l : List S32} (hw : WfL l) (t : Int) : Ev (fun k => linkhouseref2_TypeFault.f k l t) (fault2 l t) := by
  unfold linkhouseref2_TypeFault.f
  refine Ev.bind (typesFault_ev hw) ?_
  by_cases h : (fault l).1 = 0
  · have hl := (fault_zero.1 h).1
    rw [show fault2 l t = (if 0 ≤ t ∧ t < (l.length : Int) then (0, 0) else (3, -2)) from if_pos h]
    refine Ev.congr (fun k => by rw [if_pos h, in_eq, w64 (by omega) (by omega), Option.bind_some]) ?_
    by_cases a : 0 ≤ t ∧ t < (l.length : Int)
    · rw [if_pos a]; exact Ev.congr (fun k => by rw [if_pos (by simp only [decide_eq_true_eq]; omega), fault_snd h]) (Ev.now _)
    · rw [if_neg a]; exact Ev.congr (fun k => by rw [if_neg (by simp only [decide_eq_true_eq]; omega)]; simp [linkhouseref1_At.f]) (Ev.now _)
  · rw [show fault2 l t = fault l from if_neg h]
    exact Ev.congr (fun k => if_neg h) (Ev.now _)
theorem fault2_zero {l : List S32} {t : Int} : (fault2 l t).1 = 0 ↔ Valid l ∧ 0 ≤ t ∧ t < (l.length : Int) := by
  unfold fault2
  by_cases h : (fault l).1 = 0
  · rw [if_pos h]
    by_cases a : 0 ≤ t ∧ t < (l.length : Int)
    · rw [if_pos a]; exact ⟨fun _ => ⟨fault_zero.1 h, a⟩, fun _ => rfl⟩
    · rw [if_neg a]; exact ⟨fun h => by omega, fun h => absurd h.2 a⟩
  · rw [if_neg h]; exact ⟨fun h' => absurd h' h, fun h' => absurd (fault_zero.2 h'.1) h⟩
theorem fault2_snd {l : List S32} {t : Int} (h : (fault2 l t).1 = 0) : fault2 l t = (0, 0) := by
  unfold fault2 at h ⊢
  by_cases h1 : (fault l).1 = 0
  · rw [if_pos h1] at h ⊢
    by_cases a : 0 ≤ t ∧ t < (l.length : Int)
    · rw [if_pos a]
    · rw [if_neg a] at h; omega
  · rw [if_neg h1] at h; exact absurd h h1
theorem size_ev {l : List S32} (hw : WfL l) (t : Int) : Ev (fun k => records_Size.f k l t) (if (fault2 l t).1 = 0 then (sz l t, 0, 0) else (0, (fault2 l t).1, (fault2 l t).2)) := by
  unfold records_Size.f
  refine Ev.bind (checkType_ev hw t) ?_
  by_cases h : (fault2 l t).1 = 0
  · obtain ⟨_, h1, h2⟩ := fault2_zero.1 h
    rw [if_pos h, fault2_snd h]
    exact Ev.congr (fun k => by rw [if_neg (by simp), if_pos h1, if_pos h2]; rfl) (Ev.now _)
  · rw [if_neg h]
    exact Ev.congr (fun k => if_pos (by simp [h])) (Ev.now _)
end Go.Proofs.Ytpmlcmdojmdmhaa.PR
