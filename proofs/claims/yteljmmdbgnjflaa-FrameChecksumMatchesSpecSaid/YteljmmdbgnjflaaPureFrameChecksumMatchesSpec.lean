/- What frame's law FrameChecksumMatchesSpec computes is true at every input that the statement takes. -/
import Derived.Test.YteljmmdbgnjflaaHPureG
import Derived.Test.YteljmmdbgnjflaaPFx18
set_option linter.unusedVariables false
set_option linter.unusedSimpArgs false
namespace Go.Proofs.Yteljmmdbgnjflaa.PF
open Go.RowKit Go.Proofs.YteljmmdbgnjflaaW.PrintWords Go.Proofs.YteljmmdbgnjflaaW.PrintLast Go.Proofs.YteljmmdbgnjflaaW.PrintMore Go.Proofs.Yteljmmdbgnjflaa.H
theorem checksum_law : linkhouselaw2_FrameChecksumMatchesSpec.Pure := by
  intro l0 a1 a2 hm _ hw _ hw2
  have hB := wf_bytes hw
  have h2 : 0 ≤ a2 ∧ a2 < 256 := wf_bytes (l := [a2]) (fun x hx => by simp at hx; subst hx; exact hw2) a2 (by simp)
  have h140 : l0.length < 140737488355328 := by have : l0.length * 1 ≤ 140737488351232 := by assumption
                                                omega
  have hl : l0.length ≤ 9223372036854775806 := by omega
  suffices h : Ev (fun k => linkhouselaw2_FrameChecksumMatchesSpec.f k l0 a1 a2) true from h.rounds
  have hs := sum_ev l0 hl
  unfold linkhouselaw2_FrameChecksumMatchesSpec.f
  refine Ev.bind example_ev ?_
  simp only [if_true]
  refine Ev.bind hs (Ev.bind (checksum_ev l0 hB hl) ?_)
  rw [show (sum l0 != sum l0) = false by simp]
  have htrue : Ev (fun k => linkhouselaw2_FrameChecksumMatchesSpec.j1 k l0 a1 a2 true) true := by
    refine Ev.step (f := fun _ => some true) (fun k => ?_) (Ev.now _)
    simp only [linkhouselaw2_FrameChecksumMatchesSpec.j1, if_true]
  have hin : linkhouseref1_In.f a1 0 (wrap64 ((l0.length : Int) - 1)) = some (decide (0 ≤ a1 ∧ a1 ≤ (l0.length : Int) - 1)) := by
    unfold linkhouseref1_In.f
    rw [w64 (by omega) (by omega)]
    by_cases h : a1 ≥ 0
    · rw [if_pos h]
      congr 1
      rw [decide_eq_decide]
      omega
    · rw [if_neg h]
      congr 1
      symm
      rw [decide_eq_false_iff_not]
      omega
  by_cases h : 0 ≤ a1 ∧ a1 ≤ (l0.length : Int) - 1
  · obtain ⟨i, rfl⟩ := Int.eq_ofNat_of_zero_le h.1
    refine Ev.step (f := fun k => linkhouselaw2_FrameChecksumMatchesSpec.j1 k l0 i a2 (rd l0 i == a2)) (fun k => ?_) ?_
    · simp only [linkhouselaw2_FrameChecksumMatchesSpec.j0]
      rw [if_neg (by simp), hin]
      simp only [Option.bind_some]
      rw [if_pos (by rw [decide_eq_true_eq]; exact h), if_pos h.1, if_pos (by omega)]
    · by_cases he : (rd l0 i == a2) = true
      · rw [he]; exact htrue
      · rw [Bool.not_eq_true] at he
        rw [he]
        have hne : l0.getD i 0 ≠ a2 := by rw [rd_nat] at he; simpa using he
        have hset := sum_set l0 hB i (by omega) a2 h2 hne
        have hs2 := sum_ev (l0.set i a2) (by rw [List.length_set]; exact hl)
        refine Ev.step (f := fun k => (frame_Sum.f k (l0.set i a2)).bind fun t189 => ((frame_Sum.f k l0).bind fun t190 => (some (t189 != t190)))) (fun k => ?_) (Ev.bind hs2 (Ev.bind hs ?_))
        · simp only [linkhouselaw2_FrameChecksumMatchesSpec.j1]
          rw [if_neg (by simp)]
          unfold linkhouseref1_Copy.f
          rw [if_pos (by simp; omega)]
          simp only [Option.bind_some, List.nil_append]
          rw [if_pos (by omega), if_pos (by omega), Int.toNat_natCast]
        · rw [show (sum (l0.set i a2) != sum l0) = true by simpa using hset]
          exact Ev.now _
  · refine Ev.step (f := fun k => linkhouselaw2_FrameChecksumMatchesSpec.j1 k l0 a1 a2 true) (fun k => ?_) htrue
    simp only [linkhouselaw2_FrameChecksumMatchesSpec.j0]
    rw [if_neg (by simp), hin]
    simp only [Option.bind_some]
    rw [if_neg (by rw [decide_eq_true_eq]; exact h)]
end Go.Proofs.Yteljmmdbgnjflaa.PF
namespace Go.Proofs.Yteljmmdbgnjflaa.Pure
open Go.Proofs.Yteljmmdbgnjflaa.PF
theorem FrameChecksumMatchesSpec : linkhouselaw2_FrameChecksumMatchesSpec.Pure := checksum_law
end Go.Proofs.Yteljmmdbgnjflaa.Pure
