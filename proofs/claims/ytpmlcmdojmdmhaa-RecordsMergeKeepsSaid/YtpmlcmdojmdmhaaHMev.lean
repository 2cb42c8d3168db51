/- What records.Merge gives at lists of types: the united types and the numbers, by tables that tell which types are equal. -/
import Derived.Test.YtpmlcmdojmdmhaaHMrd
set_option linter.unusedVariables false
set_option linter.unusedSimpArgs false
namespace Go.Proofs.Ytpmlcmdojmdmhaa.PR
open Go.RowKit Go.Proofs.YtpmlcmdojmdmhaaW.PrintWords Go.Proofs.YtpmlcmdojmdmhaaW.PrintLast Go.Proofs.YtpmlcmdojmdmhaaW.PrintMore
theorem tells_ev {a b : List S32} (ha : Valid a) (hb : Valid b) : ∃ T, Ev (fun k => records_pairs.f k a b) T ∧ Tells a b T := by
  obtain ⟨T, h1, h2, h3, h4⟩ := pairs_ev ha hb
  exact ⟨T, h1, h2, h3, h4⟩
theorem mem_rd {l : List S32} {t : S32} (h : t ∈ l) : ∃ i : Int, Inr l i ∧ rd_T32 l i = t := by
  obtain ⟨i, hi, e⟩ := List.mem_iff_getElem.1 h
  exact ⟨(i : Int), ⟨by omega, by omega⟩, by rw [rd_T32_nat, List.getD_eq_getElem?_getD, List.getElem?_eq_getElem hi]; exact e⟩
theorem Valid.small {l : List S32} (h : Valid l) : SmallL l := ⟨h.1, fun t ht => by
  obtain ⟨i, hi, e⟩ := mem_rd ht
  have := (h.tv hi.1 hi.2).n8
  rw [e] at this
  omega⟩
theorem Valid.refs {l : List S32} (h : Valid l) : ∀ t ∈ l, RefsIn l.length t := fun t ht => by
  obtain ⟨i, hi, e⟩ := mem_rd ht
  refine ⟨fun _ => ?_, fun f hf => ?_⟩
  · have := h.elr hi
    rw [e] at this
    exact this
  · obtain ⟨q, hq, ef⟩ := List.mem_iff_getElem.1 hf
    have := h.fdr hi (q := q) (by rw [e]; exact hq)
    rw [e] at this
    unfold fd at this
    rw [List.getD_eq_getElem?_getD, List.getElem?_eq_getElem hq, ← ef] at *
    exact this
theorem merge_bad1 {a b : List S32} (hw : WfL a) (h : (fault a).1 ≠ 0) : Ev (fun k => records_Merge.f k a b) ([], [], (fault a).1, (fault a).2) := by
  unfold records_Merge.f
  refine Ev.bind (validate_ev hw) ?_
  have hn : ¬ fault a = (0, 0) := fun e => h (by rw [e])
  simp only [if_neg hn]
  exact Ev.now _
theorem merge_bad2 {a b : List S32} (hw : WfL a) (hu : WfL b) (h : (fault a).1 = 0) (h2 : (fault b).1 ≠ 0) : Ev (fun k => records_Merge.f k a b) ([], [], (fault b).1, -3) := by
  unfold records_Merge.f
  refine Ev.bind (validate_ev hw) ?_
  simp only [if_pos (fault_snd h)]
  refine Ev.bind (validate_ev hu) ?_
  have hn : ¬ fault b = (0, 0) := fun e => h2 (by rw [e])
  simp only [if_neg hn]
  exact Ev.now _
/-- The tables, the numbers and what is added. -/
structure Mgd (a b : List S32) (T O : List (List Bool)) (N Ad : List Int) : Prop where
  t : Tells a b T
  o : Tells b b O
  g : mg_k a.length T O b.length 0 (List.replicate b.length 0) [] = (N, Ad)
theorem merge_ev {a b : List S32} (hw : WfL a) (hu : WfL b) (h : (fault a).1 = 0) (h2 : (fault b).1 = 0) :
    ∃ T O N Ad, Mgd a b T O N Ad ∧ Ev (fun k => records_Merge.f k a b) (if a.length + Ad.length > 30 then ([], [], 10, -4) else (a ++ Ad.map fun q => ren N (rd_T32 b q), N, 0, 0)) := by
  have va := fault_zero.1 h
  have vb := fault_zero.1 h2
  obtain ⟨T, hT, tT⟩ := tells_ev va vb
  obtain ⟨O, hO, tO⟩ := tells_ev vb vb
  refine ⟨T, O, _, _, ⟨tT, tO, rfl⟩, ?_⟩
  unfold records_Merge.f
  refine Ev.bind (validate_ev hw) ?_
  simp only [if_pos (fault_snd h)]
  refine Ev.bind (validate_ev hu) ?_
  simp only [if_pos (fault_snd h2), if_pos (And.intro va.small (And.intro vb.small vb.refs))]
  refine Ev.bind hT (Ev.bind hO ?_)
  by_cases hl : a.length + (mg_k a.length T O b.length 0 (List.replicate b.length 0) []).2.length > 30
  · simp only [if_pos hl]; exact Ev.now _
  · simp only [if_neg hl]; exact Ev.now _
theorem mg_k_len' (na : Nat) (T O : List (List Bool)) : ∀ d k (N Ad N1 Ad1 : List Int), mg_k na T O d k N Ad = (N1, Ad1) → N1.length = N.length
  | 0, k, N, Ad, N1, Ad1, h => by rw [mg_k] at h; cases h; rfl
  | d + 1, k, N, Ad, N1, Ad1, h => by
    rw [mg_k] at h
    split at h
    · have := mg_k_len' na T O d _ _ _ _ _ h; rwa [List.length_set] at this
    · have := mg_k_len' na T O d _ _ _ _ _ h; rwa [List.length_set] at this
theorem mg_k_len {na m : Nat} {T O : List (List Bool)} {N1 Ad1 : List Int} (h : mg_k na T O m 0 (List.replicate m 0) [] = (N1, Ad1)) : N1.length = m := by
  have := mg_k_len' na T O m 0 _ _ _ _ h
  simpa using this
theorem merged_small {a b : List S32} {N Ad : List Int} (ha : Valid a) (hb : Valid b) : ∀ t ∈ (a ++ Ad.map fun q => ren N (rd_T32 b q)), t.f5.length ≤ 8 := fun t ht => by
  rcases List.mem_append.1 ht with h1 | h1
  · exact ha.small.2 t h1
  · obtain ⟨q, _, rfl⟩ := List.mem_map.1 h1
    show ((rd_T32 b q).f5.map (renF N)).length ≤ 8
    rw [List.length_map]
    by_cases hq : q.toNat < b.length
    · exact hb.small.2 _ (by unfold rd_T32; rw [List.getD_eq_getElem?_getD, List.getElem?_eq_getElem hq]; exact List.getElem_mem hq)
    · unfold rd_T32
      rw [List.getD_eq_getElem?_getD, List.getElem?_eq_none (by omega)]
      exact Nat.zero_le _
end Go.Proofs.Ytpmlcmdojmdmhaa.PR
