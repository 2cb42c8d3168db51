/- What frame's law FrameRoundTrip computes is true at every input that the statement takes. -/
import Derived.Test.YteljmmdbgnjflaaHPureG
import Derived.Test.YteljmmdbgnjflaaPFx23
set_option linter.unusedVariables false
set_option linter.unusedSimpArgs false
namespace Go.Proofs.Yteljmmdbgnjflaa.PF
open Go.RowKit Go.Proofs.YteljmmdbgnjflaaW.PrintWords Go.Proofs.YteljmmdbgnjflaaW.PrintLast Go.Proofs.YteljmmdbgnjflaaW.PrintMore Go.Proofs.Yteljmmdbgnjflaa.H
theorem roundTrip_law : linkhouselaw2_FrameRoundTrip.Pure := by
  intro l0 _ _ hw
  have hB := wf_bytes hw
  suffices h : Ev (fun k => linkhouselaw2_FrameRoundTrip.f k l0) true from h.rounds
  unfold linkhouselaw2_FrameRoundTrip.f
  refine Ev.bind example_ev ?_
  simp only [if_true]
  by_cases hl : (l0.length : Int) > 20000
  · exact Ev.congr (fun k => if_pos hl) (Ev.now _)
  · refine Ev.congr (fun k => if_neg hl) ?_
    rw [pack_ev l0 (by omega)]
    simp only [Option.bind_some]
    refine Ev.bind (unpack_frames l0 hB (by omega)) ?_
    simp only [if_true]
    rw [bytes_ev rfl]
    exact Ev.now _
end Go.Proofs.Yteljmmdbgnjflaa.PF
namespace Go.Proofs.Yteljmmdbgnjflaa.Pure
open Go.Proofs.Yteljmmdbgnjflaa.PF
theorem FrameRoundTrip : linkhouselaw2_FrameRoundTrip.Pure := roundTrip_law
end Go.Proofs.Yteljmmdbgnjflaa.Pure
