-- Written by a program of this session's own for function contracts (after the kit's print): not trusted, Lean checks it.
import Derived.Test.YtpmlcmdojmdmhaaPRx0
namespace Go.Proofs.Ytpmlcmdojmdmhaa.PR
open Go.RowKit Go.Proofs.YtpmlcmdojmdmhaaW.PrintWords Go.Proofs.YtpmlcmdojmdmhaaW.PrintLast Go.Proofs.YtpmlcmdojmdmhaaW.PrintMore
attribute [local go_sem] max2_int min2_int max_two min_two max_three min_three max_four min_four   -- for this text's walks alone
set_option linter.unusedVariables false
set_option linter.unusedSimpArgs false

/-! ### linkhouseref1_In: function 20 -/
def linkhouseref1_In.f (a0 : Int) (a1 : Int) (a2 : Int) : Option (Bool) := if a0 ≥ a1 then (some (decide (a0 ≤ a2))) else (some false)
set_option maxHeartbeats 8000000 in
set_option maxRecDepth 100000 in
theorem linkhouseref1_In.calls (a0 : Int) (a1 : Int) (a2 : Int) (r : Bool) (w : World) (h : linkhouseref1_In.f a0 a1 a2 = some r) :
    Calls Try.prog 20 #[.int .i64 a0, .int .i64 a1, .int .i64 a2] w fun e w' => e = .returned (.bool r) ∧ Drawn0 w w' := by
  have H : (if a0 ≥ a1 then (some (decide (a0 ≤ a2))) else (some false)) = some r := h
  clear h
  by_cases c4 : a0 ≥ a1
  · rw [if_pos c4] at H
    have c4b0 : decide (a1 ≤ a0) = true := decide_eq_true c4
    clear c4
    as_aux_lemma =>
      obtain rfl := Option.some.inj H
      go_enter Try.func20, Try.ntmps20
      go_wp2
      go_ret
      exact ⟨by first | rfl | (simp; done) | (simp [*]; done), by repeat (first | exact Drawn0.refl _ | apply Drawn0.step)⟩
  · rw [if_neg c4] at H
    have c4b0 : decide (a1 ≤ a0) = false := decide_eq_false c4
    clear c4
    as_aux_lemma =>
      obtain rfl := Option.some.inj H
      go_enter Try.func20, Try.ntmps20
      go_wp2
      go_ret
      exact ⟨by first | rfl | (simp; done) | (simp [*]; done), by repeat (first | exact Drawn0.refl _ | apply Drawn0.step)⟩

end Go.Proofs.Ytpmlcmdojmdmhaa.PR
