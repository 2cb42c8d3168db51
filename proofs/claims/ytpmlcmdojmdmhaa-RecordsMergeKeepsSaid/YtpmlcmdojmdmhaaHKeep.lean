/- The united types of two valid lists are valid, and each type of both equals the one that stands for it. -/
import Derived.Test.YtpmlcmdojmdmhaaHMev
set_option linter.unusedVariables false
set_option linter.unusedSimpArgs false
namespace Go.Proofs.Ytpmlcmdojmdmhaa.PR
open Go.RowKit Go.Proofs.YtpmlcmdojmdmhaaW.PrintWords Go.Proofs.YtpmlcmdojmdmhaaW.PrintLast Go.Proofs.YtpmlcmdojmdmhaaW.PrintMore
theorem rd_set (N : List Int) (k v : Nat) (x : Int) : rd (N.set k x) (v : Int) = if k = v ∧ k < N.length then x else rd N (v : Int) := by
  unfold rd
  rw [Int.toNat_natCast, getD_set]
theorem rd_push (l : List Int) (v : Nat) (x : Int) : rd (l ++ [x]) (v : Int) = if v = l.length then x else rd l (v : Int) := by
  unfold rd
  rw [Int.toNat_natCast, List.getD_eq_getElem?_getD, List.getD_eq_getElem?_getD]
  by_cases e : v = l.length
  · subst e; simp
  · rw [if_neg e]
    by_cases h : v < l.length
    · rw [List.getElem?_append_left h]
    · rw [List.getElem?_append_right (by omega), List.getElem?_eq_none (by simp; omega), List.getElem?_eq_none (by omega)]
/-- What a number x of the result stands for: type u of b equals it. -/
def Src (a b : List S32) (Ad : List Int) (x u : Int) : Prop := (Inr a x ∧ Bis a b x u) ∨ ∃ m : Nat, m < Ad.length ∧ x = (a.length : Int) + m ∧ Bis b b (rd Ad (m : Int)) u
theorem Src.trans {a b : List S32} {Ad : List Int} {x u v : Int} (h : Src a b Ad x u) (g : Bis b b u v) : Src a b Ad x v := by
  rcases h with ⟨h1, h2⟩ | ⟨m, h1, h2, h3⟩
  · exact .inl ⟨h1, h2.trans g⟩
  · exact .inr ⟨m, h1, h2, h3.trans g⟩
theorem Src.push {a b : List S32} {Ad : List Int} {x u y : Int} (h : Src a b Ad x u) : Src a b (Ad ++ [y]) x u := by
  rcases h with h | ⟨m, h1, h2, h3⟩
  · exact .inl h
  · exact .inr ⟨m, by rw [List.length_append]; omega, h2, by rw [rd_push, if_neg (by omega)]; exact h3⟩
structure Inv (a b : List S32) (k : Nat) (N Ad : List Int) : Prop where
  len : N.length = b.length
  num : ∀ v : Nat, v < k → 0 ≤ rd N (v : Int) ∧ rd N (v : Int) < (a.length : Int) + Ad.length ∧ Src a b Ad (rd N (v : Int)) (v : Int)
  add : ∀ j : Nat, j < Ad.length → (0 ≤ rd Ad (j : Int) ∧ rd Ad (j : Int) < (k : Int)) ∧ ∀ v : Nat, (v : Int) < rd Ad (j : Int) → rd N (v : Int) < (a.length : Int) + j
theorem mg_i_spec (T : List (List Bool)) (k : Nat) : ∀ d i, mg_i T k d i = -1 ∨ ∃ x : Nat, mg_i T k d i = (x : Int) ∧ i ≤ x ∧ x < i + d ∧ tabAt T x k = true
  | 0, i => .inl rfl
  | d + 1, i => by
    rw [mg_i]
    by_cases h : tabAt T i k = true
    · rw [if_pos h]; exact .inr ⟨i, rfl, Nat.le_refl _, by omega, h⟩
    · rw [if_neg h]
      rcases mg_i_spec T k d (i + 1) with h1 | ⟨x, h1, h2, h3, h4⟩
      · exact .inl h1
      · exact .inr ⟨x, h1, by omega, by omega, h4⟩
theorem mg_j_spec (O : List (List Bool)) (N : List Int) (k : Nat) : ∀ d j c, mg_j O N k d j c = c ∨ (c < 0 ∧ ∃ x : Nat, mg_j O N k d j c = rd N (x : Int) ∧ x < j + d ∧ tabAt O x k = true)
  | 0, j, c => .inl rfl
  | d + 1, j, c => by
    rw [mg_j]
    by_cases hc : c < 0
    · rw [if_pos hc]
      by_cases h : tabAt O j k = true
      · rw [if_pos h]
        rcases mg_j_spec O N k d (j + 1) (rd N (j : Int)) with h1 | ⟨_, x, h1, h3, h4⟩
        · exact .inr ⟨hc, j, h1, by omega, h⟩
        · exact .inr ⟨hc, x, h1, by omega, h4⟩
      · rw [if_neg h]
        rcases mg_j_spec O N k d (j + 1) c with h1 | ⟨_, x, h1, h3, h4⟩
        · exact .inl h1
        · exact .inr ⟨hc, x, h1, by omega, h4⟩
    · rw [if_neg hc]; exact .inl rfl
section
variable {a b : List S32} {T O : List (List Bool)}
theorem mg_c_spec (hT : Tells a b T) (hO : Tells b b O) {k : Nat} {N Ad : List Int} (hk : k < b.length) (h : Inv a b k N Ad) :
    mg_c a.length T O k N < 0 ∨ (0 ≤ mg_c a.length T O k N ∧ mg_c a.length T O k N < (a.length : Int) + Ad.length ∧ Src a b Ad (mg_c a.length T O k N) (k : Int)) := by
  unfold mg_c
  rcases mg_i_spec T k a.length 0 with h1 | ⟨x, h1, _, h2, h3⟩
  · rw [h1]
    rcases mg_j_spec O N k k 0 (-1) with h4 | ⟨_, y, h4, h5, h6⟩
    · rw [h4]; exact .inl (by omega)
    · rw [h4]
      obtain ⟨n1, n2, n3⟩ := h.num y (by omega)
      exact .inr ⟨n1, n2, n3.trans ((hO.at (by omega) hk).1 h6)⟩
  · rw [h1]
    have h4 : mg_j O N k k 0 (x : Int) = (x : Int) := by
      rcases mg_j_spec O N k k 0 (x : Int) with h4 | ⟨h4, _⟩
      · exact h4
      · omega
    rw [h4]
    exact .inr ⟨by omega, by omega, .inl ⟨⟨by omega, by omega⟩, (hT.at (by omega) hk).1 h3⟩⟩
theorem mg_k_inv (hT : Tells a b T) (hO : Tells b b O) : ∀ d k (N Ad N1 Ad1 : List Int), k + d = b.length → Inv a b k N Ad → mg_k a.length T O d k N Ad = (N1, Ad1) → Inv a b b.length N1 Ad1
  | 0, k, N, Ad, N1, Ad1, hk, h, he => by
    rw [mg_k] at he
    cases he
    obtain rfl : k = b.length := by omega
    exact h
  | d + 1, k, N, Ad, N1, Ad1, hk, h, he => by
    rw [mg_k] at he
    have hl := h.len
    by_cases hc : mg_c a.length T O k N < 0
    · rw [if_pos hc] at he
      refine mg_k_inv hT hO d (k + 1) _ _ N1 Ad1 (by omega) ⟨by rw [List.length_set]; exact hl, fun v hv => ?_, fun j hj => ?_⟩ he
      · rw [rd_set, List.length_append]
        by_cases e : k = v
        · subst e
          rw [if_pos ⟨rfl, by omega⟩]
          exact ⟨by omega, by simp; omega, .inr ⟨Ad.length, by rw [List.length_append]; simp, rfl, by rw [rd_push, if_pos rfl]; exact Bis.refl _ _⟩⟩
        · rw [if_neg (fun h => e h.1)]
          obtain ⟨n1, n2, n3⟩ := h.num v (by omega)
          exact ⟨n1, by simp; omega, n3.push⟩
      · rw [List.length_append, List.length_singleton] at hj
        rw [rd_push]
        by_cases e : j = Ad.length
        · rw [if_pos e]
          refine ⟨⟨by omega, by omega⟩, fun v hv => ?_⟩
          rw [rd_set, if_neg (by omega), e]
          exact (h.num v (by omega)).2.1
        · rw [if_neg e]
          obtain ⟨⟨a1, a2⟩, a3⟩ := h.add j (by omega)
          refine ⟨⟨a1, by omega⟩, fun v hv => ?_⟩
          rw [rd_set, if_neg (by omega)]
          exact a3 v hv
    · rw [if_neg hc] at he
      rcases mg_c_spec hT hO (k := k) (by omega) h with h0 | ⟨c1, c2, c3⟩
      · exact absurd h0 hc
      refine mg_k_inv hT hO d (k + 1) _ _ N1 Ad1 (by omega) ⟨by rw [List.length_set]; exact hl, fun v hv => ?_, fun j hj => ?_⟩ he
      · rw [rd_set]
        by_cases e : k = v
        · subst e
          rw [if_pos ⟨rfl, by omega⟩]
          exact ⟨c1, c2, c3⟩
        · rw [if_neg (fun h => e h.1)]
          exact h.num v (by omega)
      · obtain ⟨⟨a1, a2⟩, a3⟩ := h.add j hj
        refine ⟨⟨a1, by omega⟩, fun v hv => ?_⟩
        rw [rd_set, if_neg (by omega)]
        exact a3 v hv
theorem Mgd.inv {N Ad : List Int} (h : Mgd a b T O N Ad) : Inv a b b.length N Ad :=
  mg_k_inv h.t h.o _ 0 _ _ N Ad (by omega) ⟨by simp, fun v hv => by omega, fun j hj => by simp at hj⟩ h.g
end
/-! ### the united list -/
def uni (a b : List S32) (N Ad : List Int) : List S32 := a ++ Ad.map fun q => ren N (rd_T32 b q)
section
variable {a b : List S32} {N Ad : List Int}
theorem uni_len : (uni a b N Ad).length = a.length + Ad.length := by simp [uni]
theorem uni_left {i : Int} (h : Inr a i) : rd_T32 (uni a b N Ad) i = rd_T32 a i := by
  have h0 := h.1
  have h1 := h.2
  unfold rd_T32 uni
  rw [List.getD_eq_getElem?_getD, List.getD_eq_getElem?_getD, List.getElem?_append_left (by omega)]
theorem uni_right {m : Nat} (h : m < Ad.length) : rd_T32 (uni a b N Ad) ((a.length : Int) + m) = ren N (rd_T32 b (rd Ad (m : Int))) := by
  have e : ((a.length : Int) + m).toNat = a.length + m := by omega
  conv => lhs; unfold rd_T32 uni
  rw [e, List.getD_eq_getElem?_getD, List.getElem?_append_right (by omega), Nat.add_sub_cancel_left, List.getElem?_map, List.getElem?_eq_getElem h]
  unfold rd
  rw [Int.toNat_natCast, List.getD_eq_getElem?_getD, List.getElem?_eq_getElem h]
  rfl
theorem ren_fd (t : S32) (q : Nat) (h : q < t.f5.length) : fd (ren N t) q = renF N (fd t q) := by
  unfold fd ren
  rw [List.getD_eq_getElem?_getD, List.getD_eq_getElem?_getD, List.getElem?_map, List.getElem?_eq_getElem h]
  rfl
theorem bis_left (ha : Valid a) {k : Int} (h : Inr a k) : Bis a (uni a b N Ad) k k := ⟨fun x y => x = y ∧ Inr a x, ⟨rfl, h⟩, by
  rintro x y ⟨rfl, hx⟩
  rw [uni_left hx]
  exact ⟨⟨rfl, rfl, rfl, rfl, rfl, fun _ _ => ⟨rfl, rfl⟩⟩, fun _ => ⟨rfl, ha.elr hx⟩, fun q hq => ⟨rfl, ha.fdr hx hq⟩⟩⟩
theorem src_num (hb : Valid b) (hi : Inv a b b.length N Ad) {v u : Int} (hv : Inr b v) (h : Bis b b v u) : Src a b Ad (rd N v) u := by
  obtain ⟨n, rfl⟩ := Int.eq_ofNat_of_zero_le hv.1
  exact (hi.num n (by have := hv.2; omega)).2.2.trans h
theorem bis_right (ha : Valid a) (hb : Valid b) (hi : Inv a b b.length N Ad) {k : Int} (h : Inr b k) : Bis b (uni a b N Ad) k (rd N k) :=
  ⟨fun u x => Inr b u ∧ Src a b Ad x u, ⟨h, src_num hb hi h (Bis.refl _ _)⟩, by
    rintro u x ⟨hu, hs⟩
    rcases hs with ⟨hx, hB⟩ | ⟨m, hm, rfl, hB⟩
    · rw [uni_left hx]
      have hS := hB.symm
      refine ⟨hS.alike, fun e => ⟨hb.elr hu, .inl ⟨ha.elr hx, (hS.nexts.1 e).symm⟩⟩, fun q hq => ⟨hb.fdr hu hq, .inl ⟨ha.fdr hx (by have := hS.alike.2.2.2.2.1; omega), (hS.nexts.2 q hq).symm⟩⟩⟩
    · rw [uni_right hm]
      obtain ⟨⟨j0, j1⟩, _⟩ := hi.add m hm
      have hj : Inr b (rd Ad (m : Int)) := ⟨j0, j1⟩
      generalize rd Ad (m : Int) = j at hB hj
      obtain ⟨e0, e1, e2, e3, e4, e5⟩ := hB.alike
      refine ⟨⟨e0.symm, e1.symm, e2.symm, e3.symm, ?_, fun q hq => ?_⟩, fun e => ⟨hb.elr hu, ?_⟩, fun q hq => ⟨hb.fdr hu hq, ?_⟩⟩
      · show _ = ((rd_T32 b j).f5.map (renF N)).length
        rw [List.length_map]; exact e4.symm
      · rw [ren_fd _ _ (by omega)]
        exact ⟨(e5 q (by omega)).1.symm, (e5 q (by omega)).2.symm⟩
      · show Src a b Ad (renE N (rd_T32 b j)) _
        rw [renE, if_pos (by omega)]
        exact src_num hb hi (hb.elr hj) (hB.nexts.1 (by omega))
      · rw [ren_fd _ _ (by omega)]
        exact src_num hb hi (hb.fdr hj (by omega)) (hB.nexts.2 q (by omega))⟩
theorem num_inr (hi : Inv a b b.length N Ad) {v : Int} (hv : Inr b v) : Inr (uni a b N Ad) (rd N v) := by
  obtain ⟨n, rfl⟩ := Int.eq_ofNat_of_zero_le hv.1
  have := hi.num n (by have := hv.2; omega)
  exact ⟨this.1, by rw [uni_len]; omega⟩
/-- A type's fields in another list. -/
theorem fields_move {l l' : List S32} {i i' : Int} {t t' : S32} (h2 : t'.f2 = t.f2) (h5 : t'.f5.length = t.f5.length)
    (h : ∀ q, q < t.f5.length → (fd t' q).f0 = (fd t q).f0 ∧ (fd t' q).f2 = (fd t q).f2 ∧ ((0 ≤ (fd t q).f1 ∧ (fd t q).f1 < i) → (0 ≤ (fd t' q).f1 ∧ (fd t' q).f1 < i') ∧ sz l' (fd t' q).f1 = sz l (fd t q).f1)) :
    ∀ d q e, q + d = t.f5.length → fieldsCode l i t d q e = 0 → fieldsCode l' i' t' d q e = 0
  | 0, q, e, _, _ => rfl
  | d + 1, q, e, hq, hz => by
    rw [fieldsCode] at hz ⊢
    by_cases h0 : fieldCode l i t q e = 0
    · rw [if_pos h0] at hz
      obtain ⟨a1, a2, a3, a4, a5, a6⟩ := fieldCode_zero.1 h0
      obtain ⟨b1, b2, b3⟩ := h q (by omega)
      obtain ⟨⟨b4, b5⟩, b6⟩ := b3 ⟨a3, a4⟩
      have h1 : fieldCode l' i' t' q e = 0 := by
        refine fieldCode_zero.2 ⟨by rw [b1]; exact a1, fun j hj => ?_, b4, b5, by omega, ?_⟩
        · rw [(h j (by omega)).1, b1]; exact a2 j hj
        · unfold fieldEnd at a6 ⊢
          rw [b6]
          omega
      rw [if_pos h1]
      have he : fieldEnd l' t' q = fieldEnd l t q := by unfold fieldEnd; rw [b2, b6]
      rw [he]
      exact fields_move h2 h5 h d (q + 1) _ (by omega) hz
    · rw [if_neg h0] at hz
      exact absurd hz h0
theorem uni_valid (ha : Valid a) (hb : Valid b) (hi : Inv a b b.length N Ad) (hl : a.length + Ad.length ≤ 30) : Valid (uni a b N Ad) := by
  refine ⟨by rw [uni_len]; exact hl, fun i hil => ?_⟩
  rw [uni_len] at hil
  unfold Good
  rw [← rd_T32_nat]
  refine code_zero.2 ?_
  by_cases h : i < a.length
  · have hI : Inr a (i : Int) := ⟨by omega, by omega⟩
    rw [uni_left hI]
    have v := ha.tv hI.1 hI.2
    have hsz : ∀ j : Int, 0 ≤ j → j < (i : Int) → sz (uni a b N Ad) j = sz a j := fun j j0 j1 => by unfold sz; rw [uni_left ⟨j0, by omega⟩]
    refine ⟨v.k, v.nm, ⟨v.p3.1, v.p3.2.1, v.p3.2.2.1, by rw [uni_len]; have := v.p3.2.2.2; omega⟩, v.p4, v.p5, v.p6, fun e => ?_, v.n8, ?_⟩
    · rw [hsz _ v.p3.2.2.1 (v.p6 e)]; exact v.p7 e
    · exact fields_move rfl rfl (fun q hq => ⟨rfl, rfl, fun h => ⟨h, hsz _ h.1 h.2⟩⟩) _ 0 0 (by omega) v.fs
  · obtain ⟨m, rfl⟩ : ∃ m, i = a.length + m := ⟨i - a.length, by omega⟩
    have hm : m < Ad.length := by omega
    rw [show ((a.length + m : Nat) : Int) = (a.length : Int) + m by omega, uni_right hm]
    obtain ⟨⟨j0, j1⟩, hlt⟩ := hi.add m hm
    have hj : Inr b (rd Ad (m : Int)) := ⟨j0, j1⟩
    have v := hb.tv hj.1 hj.2
    have hnum : ∀ u : Int, Inr b u → u < rd Ad (m : Int) → 0 ≤ rd N u ∧ rd N u < (a.length : Int) + m := fun u hu hlu => by
      obtain ⟨n, rfl⟩ := Int.eq_ofNat_of_zero_le hu.1
      exact ⟨(hi.num n (by have := hu.2; omega)).1, hlt n hlu⟩
    have hsz : ∀ u : Int, Inr b u → sz (uni a b N Ad) (rd N u) = sz b u := fun u hu => (bis_right ha hb hi hu).alike.2.2.1.symm
    have hel := hb.elr hj
    have hfd := fun q (hq : q < (rd_T32 b (rd Ad (m : Int))).f5.length) => hb.fdr hj hq
    generalize hjj : rd Ad (m : Int) = j at *
    generalize rd_T32 b j = t at *
    have hk := v.k
    unfold P1 at hk
    have hE : (t.f0 = 2 ∨ t.f0 = 3) → renE N t = rd N t.f3 := fun e => by rw [renE, if_pos e]
    have hE0 : ¬ (t.f0 = 2 ∨ t.f0 = 3) → renE N t = 0 ∧ t.f3 = 0 := fun e => by
      rw [renE, if_neg e]
      have := v.p4.2.2
      by_cases h3 : t.f3 = 0
      · exact ⟨h3, h3⟩
      · have := this h3; omega
    refine ⟨v.k, v.nm, ⟨v.p3.1, v.p3.2.1, ?_⟩, ⟨v.p4.1, ?_, ?_⟩, v.p5, fun e => ?_, fun e => ?_, ?_, ?_⟩
    · show 0 ≤ renE N t ∧ renE N t < _
      by_cases e : t.f0 = 2 ∨ t.f0 = 3
      · rw [hE e]; exact num_inr hi hel
      · rw [(hE0 e).1, uni_len]; exact ⟨by omega, by omega⟩
    · show 0 < (t.f5.map (renF N)).length → _
      rw [List.length_map]; exact v.p4.2.1
    · show renE N t ≠ 0 → t.f0 ≠ 1 ∧ t.f0 ≠ 4
      intro hne
      by_cases e : t.f0 = 2 ∨ t.f0 = 3
      · omega
      · exact absurd (hE0 e).1 hne
    · show renE N t < _
      have e' : t.f0 = 3 := e
      rw [hE (.inr e')]
      exact (hnum _ hel (v.p6 e')).2
    · have e' : t.f0 = 3 := e
      show t.f2 = t.f4 * sz _ (renE N t)
      rw [hE (.inr e'), hsz _ hel]
      exact v.p7 e'
    · show ¬ (t.f5.map (renF N)).length > 8
      rw [List.length_map]; exact v.n8
    · have hlen : (ren N t).f5.length = t.f5.length := by show (t.f5.map (renF N)).length = _; rw [List.length_map]
      rw [hlen]
      refine fields_move (l := b) (i := j) (t := t) (t' := ren N t) rfl hlen (fun q hq => ?_) _ 0 0 (by omega) v.fs
      rw [ren_fd _ _ hq]
      refine ⟨rfl, rfl, fun hh => ?_⟩
      show (0 ≤ rd N (fd t q).f1 ∧ rd N (fd t q).f1 < _) ∧ sz _ (rd N (fd t q).f1) = _
      exact ⟨hnum _ (hfd q hq) hh.2, hsz _ (hfd q hq)⟩
theorem uni_wf (hw : WfL a) (hu : WfL b) (ha : Valid a) (hb : Valid b) (hi : Inv a b b.length N Ad) (hl : a.length + Ad.length ≤ 30) : WfL (uni a b N Ad) := by
  intro i hil
  rw [uni_len] at hil
  rw [← rd_T32_nat]
  have hI : ∀ x : Int, 0 ≤ x → x < 1000 → I64 x := fun x h0 h1 => ⟨by omega, by omega⟩
  by_cases h : i < a.length
  · rw [uni_left ⟨by omega, by omega⟩, rd_T32_nat]
    exact hw i h
  · obtain ⟨m, rfl⟩ : ∃ m, i = a.length + m := ⟨i - a.length, by omega⟩
    have hm : m < Ad.length := by omega
    rw [show ((a.length + m : Nat) : Int) = (a.length : Int) + m by omega, uni_right hm]
    obtain ⟨⟨j0, j1⟩, _⟩ := hi.add m hm
    have hj : Inr b (rd Ad (m : Int)) := ⟨j0, j1⟩
    have hel := num_inr hi (hb.elr hj)
    have hfd := fun q (hq : q < (rd_T32 b (rd Ad (m : Int))).f5.length) => num_inr hi (hb.fdr hj hq)
    have hlu := uni_len (a := a) (b := b) (N := N) (Ad := Ad)
    have wt : WfT (rd_T32 b (rd Ad (m : Int))) := by
      obtain ⟨n, hn⟩ := Int.eq_ofNat_of_zero_le j0
      rw [hn, rd_T32_nat]
      exact hu n (by omega)
    generalize rd_T32 b (rd Ad (m : Int)) = t at *
    refine ⟨wt.n0, wt.n1, wt.n2, ?_, wt.n4, ?_, fun f hf => ?_⟩
    · show I64 (renE N t)
      by_cases e : t.f0 = 2 ∨ t.f0 = 3
      · rw [renE, if_pos e]; exact hI _ hel.1 (by have := hel.2; omega)
      · rw [renE, if_neg e]; exact wt.n3
    · show (t.f5.map (renF N)).length ≤ _
      rw [List.length_map]; exact wt.len
    · obtain ⟨f', hf', rfl⟩ := List.mem_map.1 hf
      have h1 := wt.flds f' hf'
      obtain ⟨q, hq, eq⟩ := List.mem_iff_getElem.1 hf'
      have h2 := hfd q hq
      have h3 : fd t q = f' := by unfold fd; rw [List.getD_eq_getElem?_getD, List.getElem?_eq_getElem hq, eq]; rfl
      rw [h3] at h2
      exact ⟨h1.1, hI (rd N f'.f1) h2.1 (by have := h2.2; omega), h1.2.2⟩
end
end Go.Proofs.Ytpmlcmdojmdmhaa.PR
