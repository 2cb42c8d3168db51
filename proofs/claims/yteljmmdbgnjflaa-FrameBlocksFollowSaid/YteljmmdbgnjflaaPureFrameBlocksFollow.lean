/- What frame's law FrameBlocksFollow computes is true at every input that the statement takes: a's bytes are doubled up to 1024, and then the frames of b follow those of a. -/
import Derived.Test.YteljmmdbgnjflaaHPureG
import Derived.Test.YteljmmdbgnjflaaPFx27
set_option linter.unusedVariables false
set_option linter.unusedSimpArgs false
namespace Go.Proofs.Yteljmmdbgnjflaa.PF
open Go.RowKit Go.Proofs.YteljmmdbgnjflaaW.PrintWords Go.Proofs.YteljmmdbgnjflaaW.PrintLast Go.Proofs.YteljmmdbgnjflaaW.PrintMore Go.Proofs.Yteljmmdbgnjflaa.H
theorem copy_ev (xs : List Int) (h : xs.length < 140737488355328) : linkhouseref1_Copy.f xs = some xs := by
  unfold linkhouseref1_Copy.f
  rw [if_pos (by simpa using h), List.nil_append]
theorem blocks_l0 (b : List Int) (hb : Bytes b) (hbl : b.length ≤ 2000) : ∀ c (a : List Int), 1024 - a.length ≤ c → Bytes a → 1 ≤ a.length → a.length ≤ 1024 → Ev (fun k => linkhouselaw2_FrameBlocksFollow.l0 k a b) true := by
  have last : ∀ (a : List Int), Bytes a → a.length = 1024 → Ev (fun k => linkhouselaw2_FrameBlocksFollow.l0 k a b) true := by
    intro a ha h
    obtain ⟨_, f1⟩ := frames_bytes _ a (Nat.le_refl _) ha
    obtain ⟨_, f2⟩ := frames_bytes _ b (Nat.le_refl _) hb
    have hu := unpack_frames (a ++ b) (ha.append hb) (by rw [List.length_append]; omega)
    rw [frames_append 1 a b (by omega)] at hu
    refine Ev.step (f := fun k => (frame_Unpack.f k (frames a ++ frames b)).bind fun bt209 => (if bt209.2.1 = 0 then ((linkhouseref1_Copy.f a).bind fun t215 => (if t215.length + b.length < 140737488355328 then ((linkhouseref1_Bytes.f bt209.1 (t215 ++ b)).bind fun t221 => (some t221)) else (none))) else (some false))) (fun k => ?_) (Ev.bind hu ?_)
    · simp only [linkhouselaw2_FrameBlocksFollow.l0]
      rw [if_neg (by omega), pack_ev a (by omega), pack_ev b (by omega)]
      simp only [Option.bind_some, if_true]
      rw [copy_ev (frames a) (by omega)]
      simp only [Option.bind_some, if_true]
      rw [if_pos (by omega)]
    · simp only [if_true]
      rw [copy_ev a (by omega)]
      simp only [Option.bind_some]
      rw [if_pos (by omega), bytes_ev rfl]
      exact Ev.now _
  intro c
  induction c with
  | zero => intro a hc ha h1 h2; exact last a ha (by omega)
  | succ c ih =>
    intro a hc ha h1 h2
    by_cases h : a.length = 1024
    · exact last a ha h
    · have hm : mn (a.length : Int) (wrap64 (1024 - (a.length : Int))) = ((min a.length (1024 - a.length) : Nat) : Int) := by
        rw [w64 (by omega) (by omega)]
        unfold mn
        split <;> omega
      have hl : (a ++ a.take (min a.length (1024 - a.length))).length = a.length + min a.length (1024 - a.length) := by
        rw [List.length_append, List.length_take]
        omega
      refine Ev.step (fun k => ?_) (ih (a ++ a.take (min a.length (1024 - a.length))) (by omega) (ha.append (ha.take _)) (by omega) (by omega))
      simp only [linkhouselaw2_FrameBlocksFollow.l0]
      rw [if_pos (by omega), copy_ev a (by omega)]
      simp only [Option.bind_some]
      rw [hm, if_pos (by omega), if_pos (by omega), Int.toNat_natCast, if_pos (by rw [List.length_take]; omega)]
theorem blocks_law : linkhouselaw2_FrameBlocksFollow.Pure := by
  intro l0 l1 _ _ hw0 _ _ hw1
  have hB0 := wf_bytes hw0
  have hB1 := wf_bytes hw1
  suffices h : Ev (fun k => linkhouselaw2_FrameBlocksFollow.f k l0 l1) true from h.rounds
  have htrue : Ev (fun k => linkhouselaw2_FrameBlocksFollow.j0 k l0 l1 true) true := by
    refine Ev.step (f := fun _ => some true) (fun k => ?_) (Ev.now _)
    simp only [linkhouselaw2_FrameBlocksFollow.j0, if_true]
  unfold linkhouselaw2_FrameBlocksFollow.f
  refine Ev.bind example_ev ?_
  simp only [if_true]
  by_cases h0 : (l0.length : Int) = 0
  · exact Ev.congr (fun k => if_pos h0) htrue
  · refine Ev.congr (fun k => if_neg h0) ?_
    by_cases h1 : (l0.length : Int) > 1024
    · exact Ev.congr (fun k => if_pos h1) htrue
    · refine Ev.congr (fun k => if_neg h1) ?_
      by_cases h2 : (l1.length : Int) > 2000
      · rw [decide_eq_true h2]; exact htrue
      · rw [decide_eq_false h2]
        refine Ev.step (f := fun k => linkhouselaw2_FrameBlocksFollow.l0 k l0 l1) (fun k => ?_) (blocks_l0 l1 hB1 (by omega) 1024 l0 (by omega) hB0 (by omega) (by omega))
        simp only [linkhouselaw2_FrameBlocksFollow.j0]
        rw [if_neg (by simp)]
end Go.Proofs.Yteljmmdbgnjflaa.PF
namespace Go.Proofs.Yteljmmdbgnjflaa.Pure
open Go.Proofs.Yteljmmdbgnjflaa.PF
theorem FrameBlocksFollow : linkhouselaw2_FrameBlocksFollow.Pure := blocks_law
end Go.Proofs.Yteljmmdbgnjflaa.Pure
