/- Names, and the error code of a type record, as functions on lists: what records.check and the reference's TypeCode give. -/
import Derived.Test.YtpmlcmdojmdmhaaPRx12
import Derived.Test.YtpmlcmdojmdmhaaPRx34
set_option linter.unusedVariables false
set_option linter.unusedSimpArgs false
namespace Go.Proofs.Ytpmlcmdojmdmhaa.PR
open Go.RowKit Go.Proofs.YtpmlcmdojmdmhaaW.PrintWords Go.Proofs.YtpmlcmdojmdmhaaW.PrintLast Go.Proofs.YtpmlcmdojmdmhaaW.PrintMore

theorem w64 {v : Int} (h0 : -9223372036854775808 ≤ v) (h1 : v ≤ 9223372036854775807) : wrap64 v = v := by
  unfold wrap64
  omega
theorem rd_T55_nat (xs : List S55) (i : Nat) : rd_T55 xs (i : Int) = xs.getD i z55 := by simp [rd_T55]
theorem rd_T32_nat (xs : List S32) (i : Nat) : rd_T32 xs (i : Int) = xs.getD i z32 := by simp [rd_T32]

/-! ### names -/
def digitB (c : Int) : Bool := decide (48 ≤ c ∧ c ≤ 57)
def nameB (c : Int) : Bool := decide (97 ≤ c ∧ c ≤ 122) || decide (65 ≤ c ∧ c ≤ 90) || digitB c || c == 46 || c == 95 || c == 36
def nameOK (s : ByteArray) : Prop := 1 ≤ s.size ∧ s.size ≤ 16 ∧ digitB (bt s 0) = false ∧ ∀ i : Nat, i < s.size → nameB (bt s i) = true
instance (s : ByteArray) : Decidable (nameOK s) := by unfold nameOK; infer_instance

theorem isDigit_eq (c : Int) : token_isDigit.f c = some (digitB c) := by
  unfold token_isDigit.f digitB
  by_cases h : c ≥ 48
  · rw [if_pos h]; congr 1; simp [h]
  · rw [if_neg h]; congr 1; simp; omega
theorem isNameByte_eq (c : Int) : token_isNameByte.f c = some (nameB c) := by
  unfold token_isNameByte.f nameB
  simp only [isDigit_eq, Option.bind_some]
  generalize hd : digitB c = d
  have e46 : (c == 46) = decide (c = 46) := rfl
  by_cases h1 : c ≥ 97 <;> by_cases h2 : c ≤ 122 <;> by_cases h3 : c ≥ 65 <;> by_cases h4 : c ≤ 90 <;> by_cases h5 : c = 46 <;> by_cases h6 : c = 95 <;> cases d <;> first | omega | (simp [h1, h2, h3, h4, h5, h6])
theorem isName_l0 (s : ByteArray) (hs : s.size ≤ 9223372036854775807) : ∀ d i : Nat, i + d = s.size → (0 < i → digitB (bt s 0) = false) → (∀ j : Nat, j < i → nameB (bt s j) = true) →
    Ev (fun k => token_IsName.l0 k s (s.size : Int) (i : Int)) (decide (nameOK s)) := by
  intro d
  induction d with
  | zero =>
    intro i h h0 hp
    have e : ∀ b, decide (nameOK s) = b ↔ (nameOK s ↔ b = true) := fun b => by cases b <;> simp
    have hq : nameOK s ↔ (1 ≤ s.size ∧ s.size ≤ 16) := ⟨fun h => ⟨h.1, h.2.1⟩, fun h' => ⟨h'.1, h'.2, h0 (by omega), fun j hj => hp j (by omega)⟩⟩
    refine Ev.step (f := fun _ => some (decide (nameOK s))) (fun k => ?_) (Ev.now _)
    simp only [token_IsName.l0]
    rw [if_neg (by omega)]
    by_cases hz : (s.size : Int) ≥ 1
    · rw [if_pos hz]; congr 1; rw [eq_comm, e, hq]; simp; omega
    · rw [if_neg hz]; congr 1; rw [eq_comm, e, hq]; simp; omega
  | succ d ih =>
    intro i h h0 hp
    have hi : i < s.size := by omega
    by_cases hb : nameB (bt s i) = true
    · have hgo : (0 < i + 1 → digitB (bt s 0) = false) → Ev (fun k => token_IsName.l0 k s (s.size : Int) (wrap64 ((i : Int) + 1))) (decide (nameOK s)) := fun h0' => by
        rw [w64 (by omega) (by omega)]
        exact ih (i + 1) (by omega) h0' (fun j hj => by
          by_cases e : j = i
          · subst e; exact hb
          · exact hp j (by omega))
      by_cases hi0 : i = 0
      · subst hi0
        cases hd : digitB (bt s 0) with
        | true =>
          refine Ev.step (f := fun _ => some (decide (nameOK s))) (fun k => ?_) (Ev.now _)
          have : decide (nameOK s) = false := by simp [nameOK, hd]
          rw [this]
          simp only [token_IsName.l0]
          rw [if_pos (by omega), if_pos (by omega), if_pos (by omega), isNameByte_eq, hb]
          simp only [Option.bind_some, if_true]
          rw [if_pos (by omega), isDigit_eq, show digitB (bt s ((0 : Nat) : Int)) = true from hd]
          simp
        | false =>
          refine Ev.step (fun k => ?_) (hgo (fun _ => hd))
          simp only [token_IsName.l0]
          rw [if_pos (by omega), if_pos (by omega), if_pos (by omega), isNameByte_eq, hb]
          simp only [Option.bind_some, if_true]
          rw [if_pos (by omega), isDigit_eq, show digitB (bt s ((0 : Nat) : Int)) = false from hd]
          simp
      · refine Ev.step (fun k => ?_) (hgo (fun _ => h0 (by omega)))
        simp only [token_IsName.l0]
        rw [if_pos (by omega), if_pos (by omega), if_pos (by omega), isNameByte_eq, hb]
        simp only [Option.bind_some, if_true]
        rw [if_neg (by omega)]
    · have hb' : nameB (bt s i) = false := by simpa using hb
      refine Ev.step (f := fun _ => some (decide (nameOK s))) (fun k => ?_) (Ev.now _)
      have : decide (nameOK s) = false := by
        simp only [decide_eq_false_iff_not]
        rintro ⟨_, _, _, h⟩
        rw [h i hi] at hb'
        cases hb'
      rw [this]
      simp only [token_IsName.l0]
      rw [if_pos (by omega), if_pos (by omega), if_pos (by omega), isNameByte_eq, hb']
      simp
theorem isName_ev (s : ByteArray) (hs : s.size ≤ 9223372036854775807) : Ev (fun k => token_IsName.f k s) (decide (nameOK s)) :=
  isName_l0 s hs s.size 0 (by omega) (fun h => by omega) (fun j hj => by omega)

theorem in_eq (a b c : Int) : linkhouseref1_In.f a b c = some (decide (b ≤ a ∧ a ≤ c)) := by
  unfold linkhouseref1_In.f
  by_cases h : a ≥ b
  · rw [if_pos h]; congr 1; simp [h]
  · rw [if_neg h]; congr 1; simp; omega
theorem nameByte_eq (c : Int) (h0 : 0 ≤ c) (h1 : c ≤ 255) : linkhouseref1_NameByte.f c = some (nameB c) := by
  unfold linkhouseref1_NameByte.f nameB digitB
  simp only [in_eq, Option.bind_some]
  rw [w64 (by omega) (by omega)]
  by_cases h1 : 97 ≤ c ∧ c ≤ 122 <;> by_cases h2 : 65 ≤ c ∧ c ≤ 90 <;> by_cases h3 : 48 ≤ c ∧ c ≤ 57 <;> by_cases h5 : c = 46 <;> by_cases h6 : c = 95 <;> simp [h1, h2, h3, h5, h6]
theorem name_l0 (s : ByteArray) (hs : s.size ≤ 9223372036854775807) : ∀ d i : Nat, i + d = s.size → (∀ j : Nat, j < i → nameB (bt s j) = true) →
    Ev (fun k => linkhouseref1_Name.l0 k s (i : Int)) (decide (nameOK s)) := by
  intro d
  induction d with
  | zero =>
    intro i h hp
    have e : ∀ b, decide (nameOK s) = b ↔ (nameOK s ↔ b = true) := fun b => by cases b <;> simp
    refine Ev.step (f := fun _ => some (decide (nameOK s))) (fun k => ?_) (Ev.now _)
    simp only [linkhouseref1_Name.l0]
    have hr := bt_range s 0
    rw [if_neg (by omega), in_eq]
    simp only [Option.bind_some]
    by_cases hz : (1 : Int) ≤ (s.size : Int) ∧ (s.size : Int) ≤ 16
    · rw [if_pos (by simpa using hz), if_pos (by omega), in_eq, w64 (by omega) (by omega)]
      simp only [Option.bind_some]
      congr 1
      rw [eq_comm, e]
      have hz' : 1 ≤ s.size ∧ s.size ≤ 16 := by omega
      constructor
      · rintro ⟨_, _, h3, _⟩
        unfold digitB at h3
        rw [h3]
        rfl
      · intro h3
        refine ⟨hz'.1, hz'.2, ?_, fun j hj => hp j (by omega)⟩
        unfold digitB
        revert h3
        cases decide (48 ≤ bt s 0 ∧ bt s 0 ≤ 57) <;> simp
    · rw [if_neg (by simpa using hz)]
      congr 1
      rw [eq_comm, e]
      constructor
      · rintro ⟨h1, h2, _⟩; exact absurd (by omega) hz
      · intro h; cases h
  | succ d ih =>
    intro i h hp
    have hi : i < s.size := by omega
    have hr := bt_range s i
    by_cases hb : nameB (bt s i) = true
    · refine Ev.step (fun k => ?_) (ih (i + 1) (by omega) (fun j hj => by
          by_cases e : j = i
          · subst e; exact hb
          · exact hp j (by omega)))
      simp only [linkhouseref1_Name.l0]
      rw [if_pos (by omega), if_pos (by omega), nameByte_eq _ hr.1 hr.2, hb, w64 (by omega) (by omega)]
      simp
    · have hb' : nameB (bt s i) = false := by simpa using hb
      refine Ev.step (f := fun _ => some (decide (nameOK s))) (fun k => ?_) (Ev.now _)
      have : decide (nameOK s) = false := by
        simp only [decide_eq_false_iff_not]
        rintro ⟨_, _, _, h⟩
        rw [h i hi] at hb'
        cases hb'
      rw [this]
      simp only [linkhouseref1_Name.l0]
      rw [if_pos (by omega), if_pos (by omega), nameByte_eq _ hr.1 hr.2, hb']
      simp
theorem name_ev (s : ByteArray) (hs : s.size ≤ 9223372036854775807) : Ev (fun k => linkhouseref1_Name.f k s) (decide (nameOK s)) :=
  name_l0 s hs s.size 0 (by omega) (fun j hj => by omega)

/-! ### the code of a field -/
/-- The size of type i of a list. -/
def sz (l : List S32) (i : Int) : Int := (rd_T32 l i).f2
/-- Field q of a type. -/
def fd (t : S32) (q : Nat) : S55 := t.f5.getD q z55
def fieldCode (l : List S32) (i : Int) (t : S32) (q : Nat) (e : Int) : Int :=
  if ¬ nameOK (fd t q).f0 then 12 else
  if ∃ j, j < q ∧ (fd t j).f0.toList = (fd t q).f0.toList then 7 else
  if ¬ (0 ≤ (fd t q).f1 ∧ (fd t q).f1 < i) then 3 else
  if (fd t q).f2 < e ∨ (fd t q).f2 + sz l (fd t q).f1 > t.f2 then 5 else 0
/-- Where field q ends. -/
def fieldEnd (l : List S32) (t : S32) (q : Nat) : Int := (fd t q).f2 + sz l (fd t q).f1
def fieldsCode (l : List S32) (i : Int) (t : S32) : Nat → Nat → Int → Int
  | 0, _, _ => 0
  | d + 1, q, e => if fieldCode l i t q e = 0 then fieldsCode l i t d (q + 1) (fieldEnd l t q) else fieldCode l i t q e
/-- Numbers of a list of types are int's, and names are not too long. -/
def I64 (x : Int) : Prop := -9223372036854775808 ≤ x ∧ x ≤ 9223372036854775807
structure WfT (t : S32) : Prop where
  n0 : I64 t.f0
  n1 : t.f1.size ≤ 9223372036854775807
  n2 : I64 t.f2
  n3 : I64 t.f3
  n4 : I64 t.f4
  len : t.f5.length ≤ 9223372036854775807
  flds : ∀ f ∈ t.f5, f.f0.size ≤ 9223372036854775807 ∧ I64 f.f1 ∧ I64 f.f2
theorem WfT.fd {t : S32} (h : WfT t) (q : Nat) : (fd t q).f0.size ≤ 9223372036854775807 ∧ I64 (fd t q).f1 ∧ I64 (fd t q).f2 := by
  unfold Go.Proofs.Ytpmlcmdojmdmhaa.PR.fd
  by_cases hq : q < t.f5.length
  · have e : t.f5.getD q z55 = t.f5[q] := by simp [hq]
    rw [e]
    exact h.flds _ (List.getElem_mem hq)
  · have e : t.f5.getD q z55 = z55 := by simp [List.getD_eq_getElem?_getD, List.getElem?_eq_none (by omega : t.f5.length ≤ q)]
    rw [e]
    refine ⟨?_, ?_, ?_⟩ <;> simp [z55, I64, ByteArray.size]

theorem index_ev (xs : List S55) (a : ByteArray) (hl : xs.length ≤ 9223372036854775807) : ∀ d i : Nat, i + d = xs.length → (∀ j, j < i → (xs.getD j z55).f0.toList ≠ a.toList) →
    ∃ r, Ev (fun k => api_Field_46.l0 k xs a (xs.length : Int) (i : Int)) r ∧ (r ≥ 0 ↔ ∃ j, j < xs.length ∧ (xs.getD j z55).f0.toList = a.toList) := by
  intro d
  induction d with
  | zero =>
    intro i h hp
    refine ⟨-1, Ev.step (f := fun _ => some (-1)) (fun k => ?_) (Ev.now _), ⟨fun h => by omega, ?_⟩⟩
    · simp only [api_Field_46.l0]
      rw [if_neg (by omega)]
    · rintro ⟨j, hj, e⟩
      exact absurd e (hp j (by omega))
  | succ d ih =>
    intro i h hp
    have hi : i < xs.length := by omega
    by_cases he : (xs.getD i z55).f0.toList = a.toList
    · refine ⟨i, Ev.step (f := fun _ => some (i : Int)) (fun k => ?_) (Ev.now _), ⟨fun _ => ⟨i, hi, he⟩, fun _ => by omega⟩⟩
      simp only [api_Field_46.l0]
      rw [if_pos (by omega), if_pos (by omega), if_pos (by omega), rd_T55_nat]
      simp only [named.f, Option.bind_some]
      rw [if_pos (beq_iff_eq.2 he)]
    · obtain ⟨r, hr, hq⟩ := ih (i + 1) (by omega) (fun j hj => by
        by_cases e : j = i
        · subst e; exact he
        · exact hp j (by omega))
      refine ⟨r, Ev.step (fun k => ?_) hr, hq⟩
      simp only [api_Field_46.l0]
      rw [if_pos (by omega), if_pos (by omega), if_pos (by omega), rd_T55_nat, w64 (by omega) (by omega)]
      simp only [named.f, Option.bind_some]
      rw [if_neg (by simpa using he)]
      rfl
theorem contains_ev (xs : List S55) (a : ByteArray) (hl : xs.length ≤ 9223372036854775807) : Ev (fun k => api_Field_42.f k xs a) (decide (∃ j, j < xs.length ∧ (xs.getD j z55).f0.toList = a.toList)) := by
  obtain ⟨r, hr, hq⟩ := index_ev xs a hl xs.length 0 (by omega) (fun j hj => by omega)
  unfold api_Field_42.f api_Field_46.f
  refine Ev.bind hr ?_
  rw [show decide (∃ j, j < xs.length ∧ (xs.getD j z55).f0.toList = a.toList) = decide (r ≥ 0) from by simp only [decide_eq_decide]; exact hq.symm]
  exact Ev.now _

/-- What is known of the type whose fields are looked at. -/
structure Ctx (l : List S32) (i : Nat) : Prop where
  hi : i < l.length
  hl : l.length ≤ 30
  w : WfT (l.getD i z32)
  hS : ∀ j : Int, 0 ≤ j → j < i → 0 ≤ sz l j ∧ sz l j ≤ 1000000
  z0 : 0 ≤ (l.getD i z32).f2
  z1 : (l.getD i z32).f2 ≤ 1000000
  l8 : (l.getD i z32).f5.length ≤ 8
/-- Where the field ahead of q ends. -/
structure EndOf (l : List S32) (i : Nat) (t : S32) (q : Nat) (e : Int) : Prop where
  e0 : 0 ≤ e
  e1 : e ≤ 1000000
  q0 : q = 0 → e = 0
  q1 : ∀ p, q = p + 1 → e = fieldEnd l t p ∧ 0 ≤ (fd t p).f1 ∧ (fd t p).f1 < i
theorem fieldCode_zero {l : List S32} {i : Int} {t : S32} {q : Nat} {e : Int} : fieldCode l i t q e = 0 ↔ nameOK (fd t q).f0 ∧ (∀ j, j < q → (fd t j).f0.toList ≠ (fd t q).f0.toList) ∧ 0 ≤ (fd t q).f1 ∧ (fd t q).f1 < i ∧ e ≤ (fd t q).f2 ∧ fieldEnd l t q ≤ t.f2 := by
  unfold fieldCode fieldEnd
  by_cases h1 : nameOK (fd t q).f0
  · rw [if_neg (by simpa using h1)]
    by_cases h2 : ∃ j, j < q ∧ (fd t j).f0.toList = (fd t q).f0.toList
    · rw [if_pos h2]
      obtain ⟨j, hj, he⟩ := h2
      exact ⟨fun h => by omega, fun h => absurd he (h.2.1 j hj)⟩
    · rw [if_neg h2]
      have h2' : ∀ j, j < q → (fd t j).f0.toList ≠ (fd t q).f0.toList := fun j hj he => h2 ⟨j, hj, he⟩
      by_cases h3 : 0 ≤ (fd t q).f1 ∧ (fd t q).f1 < i
      · rw [if_neg (by simpa using h3)]
        by_cases h4 : (fd t q).f2 < e ∨ (fd t q).f2 + sz l (fd t q).f1 > t.f2
        · rw [if_pos h4]
          exact ⟨fun h => by omega, fun h => by omega⟩
        · rw [if_neg h4]
          exact ⟨fun _ => ⟨h1, h2', h3.1, h3.2, by omega, by omega⟩, fun _ => rfl⟩
      · rw [if_pos h3]
        exact ⟨fun h => by omega, fun h => absurd ⟨h.2.2.1, h.2.2.2.1⟩ h3⟩
  · rw [if_pos h1]
    exact ⟨fun h => by omega, fun h => absurd h.1 h1⟩
theorem EndOf.next {l : List S32} {i : Nat} {q : Nat} {e : Int} (c : Ctx l i) (h : EndOf l i (l.getD i z32) q e) (h0 : fieldCode l i (l.getD i z32) q e = 0) : EndOf l i (l.getD i z32) (q + 1) (fieldEnd l (l.getD i z32) q) := by
  obtain ⟨_, _, h1, h2, h3, h4⟩ := fieldCode_zero.1 h0
  have hs := c.hS _ h1 h2
  have hz := c.z1
  have he := h.e0
  refine ⟨?_, by omega, fun h => by omega, fun p hp => ?_⟩
  · unfold fieldEnd; omega
  · obtain rfl : p = q := by omega
    exact ⟨rfl, h1, h2⟩

theorem field_j1 (l : List S32) (i : Nat) (c : Ctx l i) (q : Nat) (e : Int) (h : EndOf l i (l.getD i z32) q e) (b : Bool) (hb : b = true ↔ ¬ ((fd (l.getD i z32) q).f1 < i)) (h0 : 0 ≤ (fd (l.getD i z32) q).f1) (hn : nameOK (fd (l.getD i z32) q).f0) (hd : ¬ ∃ j, j < q ∧ (fd (l.getD i z32) j).f0.toList = (fd (l.getD i z32) q).f0.toList) :
    Ev (fun k => records_field.j1 k l e b (l.getD i z32).f0 (l.getD i z32).f1 (l.getD i z32).f2 (l.getD i z32).f3 (l.getD i z32).f4 (l.getD i z32).f5 (fd (l.getD i z32) q).f0 (fd (l.getD i z32) q).f1 (fd (l.getD i z32) q).f2) (fieldCode l i (l.getD i z32) q e) := by
  refine Ev.step (f := fun _ => some (fieldCode l i (l.getD i z32) q e)) (fun k => ?_) (Ev.now _)
  simp only [records_field.j1]
  unfold fieldCode
  rw [if_neg (not_not_intro hn), if_neg hd]
  by_cases h1 : (fd (l.getD i z32) q).f1 < i
  · rw [if_neg (by rw [hb]; omega), if_neg (by omega : ¬ ¬ (0 ≤ (fd (l.getD i z32) q).f1 ∧ (fd (l.getD i z32) q).f1 < (i : Int)))]
    have hs := c.hS _ h0 h1
    have hlt := c.hi
    have hz := c.z1
    have he := h.e0
    have hw := (c.w.fd q).2.2.1
    have hw2 := (c.w.fd q).2.2.2
    by_cases h2 : (fd (l.getD i z32) q).f2 < e
    · rw [if_pos h2, if_pos (.inl h2)]
    · rw [if_neg h2]
      by_cases h3 : (fd (l.getD i z32) q).f2 > (l.getD i z32).f2
      · rw [if_pos h3, if_pos (by omega)]
      · rw [if_neg h3, if_pos h0, if_pos (by omega), show (rd_T32 l (fd (l.getD i z32) q).f1).f2 = sz l (fd (l.getD i z32) q).f1 from rfl, w64 (by omega) (by omega)]
        by_cases h4 : (fd (l.getD i z32) q).f2 + sz l (fd (l.getD i z32) q).f1 > (l.getD i z32).f2
        · rw [if_pos h4, if_pos (by omega)]
        · rw [if_neg h4, if_neg (by omega)]
  · rw [if_pos (by rw [hb]; omega), if_pos (by omega)]
theorem fd_eq (t : S32) (q : Nat) : rd_T55 t.f5 (q : Int) = fd t q := by rw [rd_T55_nat]; rfl
theorem field_j0 (l : List S32) (i : Nat) (c : Ctx l i) (q : Nat) (hq : q < (l.getD i z32).f5.length) (e : Int) (h : EndOf l i (l.getD i z32) q e) :
    Ev (fun k => records_field.j0 k l (i : Int) (q : Int) e (l.getD i z32).f0 (l.getD i z32).f1 (l.getD i z32).f2 (l.getD i z32).f3 (l.getD i z32).f4 (l.getD i z32).f5 (fd (l.getD i z32) q).f0 (fd (l.getD i z32) q).f1 (fd (l.getD i z32) q).f2) (fieldCode l i (l.getD i z32) q e) := by
  refine Ev.step (fun k => by simp only [records_field.j0]; rfl) ?_
  refine Ev.bind (isName_ev _ (c.w.fd q).1) ?_
  by_cases hn : nameOK (fd (l.getD i z32) q).f0
  · have l8 := c.l8
    refine Ev.congr (fun k => by rw [if_pos (by simpa using hn), if_pos (by omega), if_pos (by omega)]) ?_
    refine Ev.bind (contains_ev _ _ (by rw [List.length_take]; omega)) ?_
    have hex : (∃ j, j < ((l.getD i z32).f5.take ((q : Int).toNat)).length ∧ (((l.getD i z32).f5.take ((q : Int).toNat)).getD j z55).f0.toList = (fd (l.getD i z32) q).f0.toList) ↔ ∃ j, j < q ∧ (fd (l.getD i z32) j).f0.toList = (fd (l.getD i z32) q).f0.toList := by
      have hlen : ((l.getD i z32).f5.take ((q : Int).toNat)).length = q := by rw [List.length_take]; omega
      have hget : ∀ j, j < q → ((l.getD i z32).f5.take ((q : Int).toNat)).getD j z55 = fd (l.getD i z32) j := fun j hj => by
        simp [fd, List.getD_eq_getElem?_getD, List.getElem?_take, hj]
      rw [hlen]
      constructor
      · rintro ⟨j, hj, he⟩; rw [hget j hj] at he; exact ⟨j, hj, he⟩
      · rintro ⟨j, hj, he⟩; exact ⟨j, hj, by rw [hget j hj]; exact he⟩
    by_cases hd : ∃ j, j < q ∧ (fd (l.getD i z32) j).f0.toList = (fd (l.getD i z32) q).f0.toList
    · refine Ev.congr (f := fun _ => some (fieldCode l i (l.getD i z32) q e)) (fun k => ?_) (Ev.now _)
      rw [if_pos (by simpa using hex.2 hd)]
      unfold fieldCode
      rw [if_neg (not_not_intro hn), if_pos hd]
    · refine Ev.congr (fun k => if_neg (by simp only [decide_eq_true_eq]; rw [hex]; exact hd)) ?_
      by_cases h0 : (fd (l.getD i z32) q).f1 < 0
      · refine Ev.congr (fun k => if_pos h0) ?_
        refine Ev.step (f := fun _ => some (fieldCode l i (l.getD i z32) q e)) (fun k => ?_) (Ev.now _)
        simp only [records_field.j1]
        unfold fieldCode
        rw [if_neg (not_not_intro hn), if_neg hd, if_pos trivial, if_pos (by omega)]
      · refine Ev.congr (fun k => if_neg h0) ?_
        exact field_j1 l i c q e h _ (by simp) (by omega) hn hd
  · refine Ev.congr (f := fun _ => some (fieldCode l i (l.getD i z32) q e)) (fun k => ?_) (Ev.now _)
    rw [if_neg (by simpa using hn)]
    unfold fieldCode
    rw [if_pos hn]
theorem field_ev (l : List S32) (i : Nat) (c : Ctx l i) (q : Nat) (hq : q < (l.getD i z32).f5.length) (e : Int) (h : EndOf l i (l.getD i z32) q e) :
    Ev (fun k => records_field.f k l (i : Int) (q : Int)) (fieldCode l i (l.getD i z32) q e) := by
  have hi := c.hi
  have hl := c.hl
  have l8 := c.l8
  refine Ev.congr (fun k => ?_) (field_j0 l i c q hq e h)
  unfold records_field.f
  rw [rd_T32_nat, fd_eq, if_pos (by omega), if_pos (by omega), if_pos (by omega), if_pos (by omega)]
  cases q with
  | zero =>
    rw [if_neg (by simp), h.q0 rfl]
  | succ p =>
    have e1 : (((p + 1 : Nat) : Int) - 1) = (p : Int) := by omega
    obtain ⟨he, h1, h2⟩ := h.q1 p rfl
    have hs := c.hS _ h1 h2
    have hf := (c.w.fd p).2.2
    have ha := h.e0
    have hb := h.e1
    unfold fieldEnd at he
    rw [if_pos (by omega), e1, w64 (by omega) (by omega), fd_eq, if_pos (by omega), if_pos (by omega), if_pos h1, if_pos (by omega), show (rd_T32 l (fd (l.getD i z32) p).f1).f2 = sz l (fd (l.getD i z32) p).f1 from rfl, w64 (by omega) (by omega), ← he]
theorem check_l0 (l : List S32) (i : Nat) (c : Ctx l i) : ∀ d q : Nat, q + d = (l.getD i z32).f5.length → ∀ e, EndOf l i (l.getD i z32) q e →
    Ev (fun k => records_check.l0 k l (i : Int) ((l.getD i z32).f5.length : Int) (q : Int)) (fieldsCode l i (l.getD i z32) d q e) := by
  intro d
  induction d with
  | zero =>
    intro q hq e h
    refine Ev.step (f := fun _ => some 0) (fun k => ?_) (Ev.now _)
    simp only [records_check.l0]
    rw [if_neg (by omega)]
  | succ d ih =>
    intro q hq e h
    have l8 := c.l8
    refine Ev.step (fun k => by simp only [records_check.l0]; rw [if_pos (by omega)]) ?_
    refine Ev.bind (field_ev l i c q (by omega) e h) ?_
    unfold fieldsCode
    by_cases h0 : fieldCode l i (l.getD i z32) q e = 0
    · rw [if_pos h0]
      refine Ev.congr (fun k => if_pos h0) ?_
      rw [w64 (by omega) (by omega)]
      exact ih (q + 1) (by omega) _ (h.next c h0)
    · rw [if_neg h0]
      exact Ev.congr (fun k => if_neg h0) (Ev.now _)

theorem type_l1 (l : List S32) (i : Nat) (c : Ctx l i) (q : Nat) (hq : q < (l.getD i z32).f5.length) (e : Int) (h : EndOf l i (l.getD i z32) q e) (hn : nameOK (fd (l.getD i z32) q).f0) (r : Int)
    (hr : fieldCode l i (l.getD i z32) q e = 0 → Ev (fun k => linkhouseref2_TypeCode.l0 k l (i : Int) (fieldEnd l (l.getD i z32) q) ((q + 1 : Nat) : Int) (l.getD i z32).f0 (l.getD i z32).f1 (l.getD i z32).f2 (l.getD i z32).f3 (l.getD i z32).f4 (l.getD i z32).f5) r)
    (hr' : fieldCode l i (l.getD i z32) q e ≠ 0 → r = fieldCode l i (l.getD i z32) q e) : ∀ d j : Nat, j + d = q → (∀ p, p < j → (fd (l.getD i z32) p).f0.toList ≠ (fd (l.getD i z32) q).f0.toList) →
    Ev (fun k => linkhouseref2_TypeCode.l1 k l (i : Int) e (q : Int) (j : Int) (l.getD i z32).f0 (l.getD i z32).f1 (l.getD i z32).f2 (l.getD i z32).f3 (l.getD i z32).f4 (l.getD i z32).f5 (fd (l.getD i z32) q).f0 (fd (l.getD i z32) q).f1 (fd (l.getD i z32) q).f2) r := by
  have hi := c.hi
  have hl := c.hl
  have l8 := c.l8
  intro d
  induction d with
  | zero =>
    intro j hj hp
    obtain rfl : j = q := by omega
    refine Ev.step (fun k => by simp only [linkhouseref2_TypeCode.l1]; rw [if_neg (by omega), in_eq, w64 (by omega) (by omega)]) ?_
    have hd : ¬ ∃ p, p < j ∧ (fd (l.getD i z32) p).f0.toList = (fd (l.getD i z32) j).f0.toList := fun ⟨p, hp1, hp2⟩ => hp p hp1 hp2
    have hz := c.z1
    have he := h.e0
    have hw := (c.w.fd j).2.2.1
    have hw2 := (c.w.fd j).2.2.2
    by_cases h1 : 0 ≤ (fd (l.getD i z32) j).f1 ∧ (fd (l.getD i z32) j).f1 < (i : Int)
    · have hs := c.hS _ h1.1 h1.2
      refine Ev.congr (fun k => if_pos (by simp only [decide_eq_true_eq]; omega)) ?_
      by_cases h2 : (fd (l.getD i z32) j).f2 < e
      · have h5 : fieldCode l i (l.getD i z32) j e = 5 := by unfold fieldCode; rw [if_neg (not_not_intro hn), if_neg hd, if_neg (by omega), if_pos (.inl h2)]
        rw [hr' (by omega), h5]
        exact Ev.congr (fun k => if_pos h2) (Ev.now _)
      · refine Ev.congr (fun k => if_neg h2) ?_
        by_cases h3 : (fd (l.getD i z32) j).f2 > 2000000
        · have h5 : fieldCode l i (l.getD i z32) j e = 5 := by unfold fieldCode; rw [if_neg (not_not_intro hn), if_neg hd, if_neg (by omega), if_pos (by omega)]
          rw [hr' (by omega), h5]
          exact Ev.congr (fun k => if_pos h3) (Ev.now _)
        · refine Ev.congr (fun k => by rw [if_neg h3, if_pos h1.1, if_pos (by omega), show (rd_T32 l (fd (l.getD i z32) j).f1).f2 = sz l (fd (l.getD i z32) j).f1 from rfl, w64 (by omega) (by omega)]) ?_
          by_cases h4 : (fd (l.getD i z32) j).f2 + sz l (fd (l.getD i z32) j).f1 > (l.getD i z32).f2
          · have h5 : fieldCode l i (l.getD i z32) j e = 5 := by unfold fieldCode; rw [if_neg (not_not_intro hn), if_neg hd, if_neg (by omega), if_pos (by omega)]
            rw [hr' (by omega), h5]
            exact Ev.congr (fun k => if_pos h4) (Ev.now _)
          · have h5 : fieldCode l i (l.getD i z32) j e = 0 := by unfold fieldCode; rw [if_neg (not_not_intro hn), if_neg hd, if_neg (by omega), if_neg (by omega)]
            refine Ev.congr (fun k => ?_) (hr h5)
            rw [if_neg h4, w64 (by omega) (by omega)]
            rfl
    · have h5 : fieldCode l i (l.getD i z32) j e = 3 := by unfold fieldCode; rw [if_neg (not_not_intro hn), if_neg hd, if_pos h1]
      rw [hr' (by omega), h5]
      exact Ev.congr (fun k => if_neg (by simp only [decide_eq_true_eq]; omega)) (Ev.now _)
  | succ d ih =>
    intro j hj hp
    by_cases he : (fd (l.getD i z32) j).f0.toList = (fd (l.getD i z32) q).f0.toList
    · have h5 : fieldCode l i (l.getD i z32) q e = 7 := by unfold fieldCode; rw [if_neg (not_not_intro hn), if_pos ⟨j, by omega, he⟩]
      rw [hr' (by omega), h5]
      refine Ev.step (f := fun _ => some 7) (fun k => ?_) (Ev.now _)
      simp only [linkhouseref2_TypeCode.l1]
      rw [if_pos (by omega), if_pos (by omega), if_pos (by omega), fd_eq, if_pos he]
    · refine Ev.step (fun k => ?_) (ih (j + 1) (by omega) (fun p hp1 => by
        by_cases e1 : p = j
        · subst e1; exact he
        · exact hp p (by omega)))
      simp only [linkhouseref2_TypeCode.l1]
      rw [if_pos (by omega), if_pos (by omega), if_pos (by omega), fd_eq, if_neg he, w64 (by omega) (by omega)]
      rfl
theorem type_l0 (l : List S32) (i : Nat) (c : Ctx l i) : ∀ d q : Nat, q + d = (l.getD i z32).f5.length → ∀ e, EndOf l i (l.getD i z32) q e →
    Ev (fun k => linkhouseref2_TypeCode.l0 k l (i : Int) e (q : Int) (l.getD i z32).f0 (l.getD i z32).f1 (l.getD i z32).f2 (l.getD i z32).f3 (l.getD i z32).f4 (l.getD i z32).f5) (fieldsCode l i (l.getD i z32) d q e) := by
  intro d
  induction d with
  | zero =>
    intro q hq e h
    refine Ev.step (f := fun _ => some 0) (fun k => ?_) (Ev.now _)
    simp only [linkhouseref2_TypeCode.l0]
    rw [if_neg (by omega)]
  | succ d ih =>
    intro q hq e h
    have l8 := c.l8
    refine Ev.step (fun k => by simp only [linkhouseref2_TypeCode.l0]; rw [if_pos (by omega), if_pos (by omega), fd_eq]) ?_
    refine Ev.bind (name_ev _ (c.w.fd q).1) ?_
    by_cases hn : nameOK (fd (l.getD i z32) q).f0
    · refine Ev.congr (fun k => if_pos (by simpa using hn)) ?_
      refine type_l1 l i c q (by omega) e h hn _ (fun h0 => ?_) (fun h0 => ?_) q 0 (by omega) (fun p hp => by omega)
      · unfold fieldsCode
        rw [if_pos h0]
        exact ih (q + 1) (by omega) _ (h.next c h0)
      · unfold fieldsCode
        rw [if_neg h0]
    · have h5 : fieldCode l i (l.getD i z32) q e = 12 := by unfold fieldCode; rw [if_pos hn]
      unfold fieldsCode
      rw [if_neg (by omega), h5]
      exact Ev.congr (fun k => if_neg (by simpa using hn)) (Ev.now _)
end Go.Proofs.Ytpmlcmdojmdmhaa.PR
