/- What frame's law FrameUnique computes is true at every input that the statement takes. -/
import Derived.Test.YteljmmdbgnjflaaHRef
import Derived.Test.YteljmmdbgnjflaaPFx25
set_option linter.unusedVariables false
set_option linter.unusedSimpArgs false
namespace Go.Proofs.Yteljmmdbgnjflaa.PF
open Go.RowKit Go.Proofs.YteljmmdbgnjflaaW.PrintWords Go.Proofs.YteljmmdbgnjflaaW.PrintLast Go.Proofs.YteljmmdbgnjflaaW.PrintMore Go.Proofs.Yteljmmdbgnjflaa.H
theorem unique_law : linkhouselaw2_FrameUnique.Pure := by
  intro l0 _ _ hw
  have hB := wf_bytes hw
  suffices h : Ev (fun k => linkhouselaw2_FrameUnique.f k l0) true from h.rounds
  unfold linkhouselaw2_FrameUnique.f
  refine Ev.bind example_ev ?_
  simp only [if_true]
  by_cases hl : (l0.length : Int) > 20000
  · exact Ev.congr (fun k => if_pos hl) (Ev.now _)
  · refine Ev.congr (fun k => if_neg hl) ?_
    obtain ⟨r, hr, hok⟩ := unpack_total l0 hB (by omega)
    refine Ev.bind hr ?_
    rcases hok with ⟨at', h1, rfl⟩ | rfl | ⟨d, hBd, hf, hd, rfl⟩
    · refine Ev.congr (f := fun _ => some true) (fun k => ?_) (Ev.now _)
      rw [if_neg (by simp), if_pos (by simp), if_pos (by simp)]
      unfold linkhouseref1_In.f
      rw [if_pos (by simp only; omega), w64 (by omega) (by omega)]
      simp only [Option.bind_some]
      rw [if_pos (by simp; omega)]
    · refine Ev.congr (f := fun _ => some true) (fun k => ?_) (Ev.now _)
      rw [if_neg (by simp), if_pos (by simp), if_neg (by simp)]
      simp [linkhouseref1_At.f]
    · refine Ev.congr (fun k => if_pos rfl) ?_
      by_cases hbig : (d.length : Int) > 20000
      · exact Ev.congr (fun k => if_pos hbig) (Ev.now _)
      · refine Ev.congr (fun k => if_neg hbig) (Ev.bind (frames_ref_ev d hBd (by omega)) ?_)
        rw [bytes_ev hf]
        exact Ev.now _
end Go.Proofs.Yteljmmdbgnjflaa.PF
namespace Go.Proofs.Yteljmmdbgnjflaa.Pure
open Go.Proofs.Yteljmmdbgnjflaa.PF
theorem FrameUnique : linkhouselaw2_FrameUnique.Pure := unique_law
end Go.Proofs.Yteljmmdbgnjflaa.Pure
