-- Written by a program of this session's own for function contracts (after the kit's print): not trusted, Lean checks it.
import Derived.Test.YtpmlcmdojmdmhaaPRx0
import Derived.Test.YtpmlcmdojmdmhaaPRx6
namespace Go.Proofs.Ytpmlcmdojmdmhaa.PR
open Go.RowKit Go.Proofs.YtpmlcmdojmdmhaaW.PrintWords Go.Proofs.YtpmlcmdojmdmhaaW.PrintLast Go.Proofs.YtpmlcmdojmdmhaaW.PrintMore
attribute [local go_sem] max2_int min2_int max_two min_two max_three min_three max_four min_four   -- for this text's walks alone
set_option linter.unusedVariables false
set_option linter.unusedSimpArgs false

/-! ### token_isNameByte: function 40 -/
def token_isNameByte.f (a0 : Int) : Option (Bool) := if a0 ≥ 97 then (if a0 ≤ 122 then (some true) else (if a0 ≥ 65 then (if a0 ≤ 90 then (some true) else ((token_isDigit.f a0).bind fun t101 => (if t101 = true then (some true) else (if a0 = 46 then (some true) else (if a0 = 95 then (some true) else (some (a0 == 36))))))) else ((token_isDigit.f a0).bind fun t102 => (if t102 = true then (some true) else (if a0 = 46 then (some true) else (if a0 = 95 then (some true) else (some (a0 == 36)))))))) else (if a0 ≥ 65 then (if a0 ≤ 90 then (some true) else ((token_isDigit.f a0).bind fun t103 => (if t103 = true then (some true) else (if a0 = 46 then (some true) else (if a0 = 95 then (some true) else (some (a0 == 36))))))) else ((token_isDigit.f a0).bind fun t104 => (if t104 = true then (some true) else (if a0 = 46 then (some true) else (if a0 = 95 then (some true) else (some (a0 == 36)))))))
set_option maxHeartbeats 8000000 in
set_option maxRecDepth 100000 in
theorem token_isNameByte.calls (a0 : Int) (r : Bool) (w : World) (h : token_isNameByte.f a0 = some r) :
  Calls Try.prog 40 #[.int .u8 a0] w fun e w' => e = .returned (.bool r) ∧ Drawn0 w w' := by
 have H : (if a0 ≥ 97 then (if a0 ≤ 122 then (some true) else (if a0 ≥ 65 then (if a0 ≤ 90 then (some true) else ((token_isDigit.f a0).bind fun t101 => (if t101 = true then (some true) else (if a0 = 46 then (some true) else (if a0 = 95 then (some true) else (some (a0 == 36))))))) else ((token_isDigit.f a0).bind fun t102 => (if t102 = true then (some true) else (if a0 = 46 then (some true) else (if a0 = 95 then (some true) else (some (a0 == 36)))))))) else (if a0 ≥ 65 then (if a0 ≤ 90 then (some true) else ((token_isDigit.f a0).bind fun t103 => (if t103 = true then (some true) else (if a0 = 46 then (some true) else (if a0 = 95 then (some true) else (some (a0 == 36))))))) else ((token_isDigit.f a0).bind fun t104 => (if t104 = true then (some true) else (if a0 = 46 then (some true) else (if a0 = 95 then (some true) else (some (a0 == 36)))))))) = some r := h
 clear h
 by_cases c2 : a0 ≥ 97
 ·rw [if_pos c2] at H
  have c2b0 : decide (97 ≤ a0) = true := decide_eq_true c2
  clear c2
  by_cases c3 : a0 ≤ 122
  ·rw [if_pos c3] at H
   have c3b0 : decide (a0 ≤ 122) = true := decide_eq_true c3
   clear c3
   as_aux_lemma =>
    obtain rfl := Option.some.inj H
    go_enter Try.func40, Try.ntmps40
    go_wp2
    go_ret
    exact ⟨by first | rfl | (simp; done) | (simp [*]; done), by repeat (first | exact Drawn0.refl _ | apply Drawn0.step)⟩
  ·rw [if_neg c3] at H
   have c3b0 : decide (a0 ≤ 122) = false := decide_eq_false c3
   clear c3
   by_cases c4 : a0 ≥ 65
   ·rw [if_pos c4] at H
    have c4b0 : decide (65 ≤ a0) = true := decide_eq_true c4
    clear c4
    by_cases c5 : a0 ≤ 90
    ·rw [if_pos c5] at H
     have c5b0 : decide (a0 ≤ 90) = true := decide_eq_true c5
     clear c5
     as_aux_lemma =>
      obtain rfl := Option.some.inj H
      go_enter Try.func40, Try.ntmps40
      go_wp2
      go_ret
      exact ⟨by first | rfl | (simp; done) | (simp [*]; done), by repeat (first | exact Drawn0.refl _ | apply Drawn0.step)⟩
    ·rw [if_neg c5] at H
     have c5b0 : decide (a0 ≤ 90) = false := decide_eq_false c5
     clear c5
     replace H := Option.bind_eq_some_iff.mp H
     obtain ⟨t101, A60, H⟩ := H
     replace H : (if t101 = true then (some true) else (if a0 = 46 then (some true) else (if a0 = 95 then (some true) else (some (a0 == 36))))) = some r := H
     have A6 := Aside0.mk A60
     clear A60
     by_cases c7 : t101 = true
     ·subst c7
      have H1 : (some true) = some r := by rw [if_pos rfl] at H; exact H
      replace H := H1; clear H1
      as_aux_lemma =>
       obtain rfl := Option.some.inj H
       go_enter Try.func40, Try.ntmps40
       go_wp2_with (first | (go_at_call 41; (with_reducible refine (token_isDigit.calls a0 true _ A6.out).mono ?_); rintro e w' ⟨rfl, ⟨nd, rfl⟩⟩))
       go_ret
       exact ⟨by first | rfl | (simp; done) | (simp [*]; done), by repeat (first | exact Drawn0.refl _ | apply Drawn0.step)⟩
     ·replace c7 := Bool.eq_false_iff.mpr c7
      subst c7
      have H1 : (if a0 = 46 then (some true) else (if a0 = 95 then (some true) else (some (a0 == 36)))) = some r := by rw [if_neg (show ¬ (false = true) by decide)] at H; exact H
      replace H := H1; clear H1
      by_cases c8 : a0 = 46
      ·rw [if_pos c8] at H
       have c8b0 : (a0 == 46) = true := beq_iff_eq.mpr c8
       have c8b1 : (a0 != 46) = false := bne_eq_false_iff_eq.mpr c8
       clear c8
       as_aux_lemma =>
        obtain rfl := Option.some.inj H
        go_enter Try.func40, Try.ntmps40
        go_wp2_with (first | (go_at_call 41; (with_reducible refine (token_isDigit.calls a0 false _ A6.out).mono ?_); rintro e w' ⟨rfl, ⟨nd, rfl⟩⟩))
        go_ret
        exact ⟨by first | rfl | (simp; done) | (simp [*]; done), by repeat (first | exact Drawn0.refl _ | apply Drawn0.step)⟩
      ·rw [if_neg c8] at H
       have c8b0 : (a0 == 46) = false := beq_eq_false_iff_ne.mpr c8
       have c8b1 : (a0 != 46) = true := bne_iff_ne.mpr c8
       by_cases c9 : a0 = 95
       ·rw [if_pos c9] at H
        have c9b0 : (a0 == 95) = true := beq_iff_eq.mpr c9
        have c9b1 : (a0 != 95) = false := bne_eq_false_iff_eq.mpr c9
        clear c9
        as_aux_lemma =>
         obtain rfl := Option.some.inj H
         go_enter Try.func40, Try.ntmps40
         go_wp2_with (first | (go_at_call 41; (with_reducible refine (token_isDigit.calls a0 false _ A6.out).mono ?_); rintro e w' ⟨rfl, ⟨nd, rfl⟩⟩))
         go_ret
         exact ⟨by first | rfl | (simp; done) | (simp [*]; done), by repeat (first | exact Drawn0.refl _ | apply Drawn0.step)⟩
       ·rw [if_neg c9] at H
        have c9b0 : (a0 == 95) = false := beq_eq_false_iff_ne.mpr c9
        have c9b1 : (a0 != 95) = true := bne_iff_ne.mpr c9
        as_aux_lemma =>
         obtain rfl := Option.some.inj H
         go_enter Try.func40, Try.ntmps40
         go_wp2_with (first | (go_at_call 41; (with_reducible refine (token_isDigit.calls a0 false _ A6.out).mono ?_); rintro e w' ⟨rfl, ⟨nd, rfl⟩⟩))
         go_ret
         exact ⟨by first | rfl | (simp; done) | (simp [*]; done), by repeat (first | exact Drawn0.refl _ | apply Drawn0.step)⟩
   ·rw [if_neg c4] at H
    have c4b0 : decide (65 ≤ a0) = false := decide_eq_false c4
    clear c4
    replace H := Option.bind_eq_some_iff.mp H
    obtain ⟨t102, A100, H⟩ := H
    replace H : (if t102 = true then (some true) else (if a0 = 46 then (some true) else (if a0 = 95 then (some true) else (some (a0 == 36))))) = some r := H
    have A10 := Aside0.mk A100
    clear A100
    by_cases c11 : t102 = true
    ·subst c11
     have H1 : (some true) = some r := by rw [if_pos rfl] at H; exact H
     replace H := H1; clear H1
     as_aux_lemma =>
      obtain rfl := Option.some.inj H
      go_enter Try.func40, Try.ntmps40
      go_wp2_with (first | (go_at_call 41; (with_reducible refine (token_isDigit.calls a0 true _ A10.out).mono ?_); rintro e w' ⟨rfl, ⟨nd, rfl⟩⟩))
      go_ret
      exact ⟨by first | rfl | (simp; done) | (simp [*]; done), by repeat (first | exact Drawn0.refl _ | apply Drawn0.step)⟩
    ·replace c11 := Bool.eq_false_iff.mpr c11
     subst c11
     have H1 : (if a0 = 46 then (some true) else (if a0 = 95 then (some true) else (some (a0 == 36)))) = some r := by rw [if_neg (show ¬ (false = true) by decide)] at H; exact H
     replace H := H1; clear H1
     by_cases c12 : a0 = 46
     ·rw [if_pos c12] at H
      have c12b0 : (a0 == 46) = true := beq_iff_eq.mpr c12
      have c12b1 : (a0 != 46) = false := bne_eq_false_iff_eq.mpr c12
      clear c12
      as_aux_lemma =>
       obtain rfl := Option.some.inj H
       go_enter Try.func40, Try.ntmps40
       go_wp2_with (first | (go_at_call 41; (with_reducible refine (token_isDigit.calls a0 false _ A10.out).mono ?_); rintro e w' ⟨rfl, ⟨nd, rfl⟩⟩))
       go_ret
       exact ⟨by first | rfl | (simp; done) | (simp [*]; done), by repeat (first | exact Drawn0.refl _ | apply Drawn0.step)⟩
     ·rw [if_neg c12] at H
      have c12b0 : (a0 == 46) = false := beq_eq_false_iff_ne.mpr c12
      have c12b1 : (a0 != 46) = true := bne_iff_ne.mpr c12
      by_cases c13 : a0 = 95
      ·rw [if_pos c13] at H
       have c13b0 : (a0 == 95) = true := beq_iff_eq.mpr c13
       have c13b1 : (a0 != 95) = false := bne_eq_false_iff_eq.mpr c13
       clear c13
       as_aux_lemma =>
        obtain rfl := Option.some.inj H
        go_enter Try.func40, Try.ntmps40
        go_wp2_with (first | (go_at_call 41; (with_reducible refine (token_isDigit.calls a0 false _ A10.out).mono ?_); rintro e w' ⟨rfl, ⟨nd, rfl⟩⟩))
        go_ret
        exact ⟨by first | rfl | (simp; done) | (simp [*]; done), by repeat (first | exact Drawn0.refl _ | apply Drawn0.step)⟩
      ·rw [if_neg c13] at H
       have c13b0 : (a0 == 95) = false := beq_eq_false_iff_ne.mpr c13
       have c13b1 : (a0 != 95) = true := bne_iff_ne.mpr c13
       as_aux_lemma =>
        obtain rfl := Option.some.inj H
        go_enter Try.func40, Try.ntmps40
        go_wp2_with (first | (go_at_call 41; (with_reducible refine (token_isDigit.calls a0 false _ A10.out).mono ?_); rintro e w' ⟨rfl, ⟨nd, rfl⟩⟩))
        go_ret
        exact ⟨by first | rfl | (simp; done) | (simp [*]; done), by repeat (first | exact Drawn0.refl _ | apply Drawn0.step)⟩
 ·rw [if_neg c2] at H
  have c2b0 : decide (97 ≤ a0) = false := decide_eq_false c2
  clear c2
  by_cases c14 : a0 ≥ 65
  ·rw [if_pos c14] at H
   have c14b0 : decide (65 ≤ a0) = true := decide_eq_true c14
   clear c14
   by_cases c15 : a0 ≤ 90
   ·rw [if_pos c15] at H
    have c15b0 : decide (a0 ≤ 90) = true := decide_eq_true c15
    clear c15
    as_aux_lemma =>
     obtain rfl := Option.some.inj H
     go_enter Try.func40, Try.ntmps40
     go_wp2
     go_ret
     exact ⟨by first | rfl | (simp; done) | (simp [*]; done), by repeat (first | exact Drawn0.refl _ | apply Drawn0.step)⟩
   ·rw [if_neg c15] at H
    have c15b0 : decide (a0 ≤ 90) = false := decide_eq_false c15
    clear c15
    replace H := Option.bind_eq_some_iff.mp H
    obtain ⟨t103, A160, H⟩ := H
    replace H : (if t103 = true then (some true) else (if a0 = 46 then (some true) else (if a0 = 95 then (some true) else (some (a0 == 36))))) = some r := H
    have A16 := Aside0.mk A160
    clear A160
    by_cases c17 : t103 = true
    ·subst c17
     have H1 : (some true) = some r := by rw [if_pos rfl] at H; exact H
     replace H := H1; clear H1
     as_aux_lemma =>
      obtain rfl := Option.some.inj H
      go_enter Try.func40, Try.ntmps40
      go_wp2_with (first | (go_at_call 41; (with_reducible refine (token_isDigit.calls a0 true _ A16.out).mono ?_); rintro e w' ⟨rfl, ⟨nd, rfl⟩⟩))
      go_ret
      exact ⟨by first | rfl | (simp; done) | (simp [*]; done), by repeat (first | exact Drawn0.refl _ | apply Drawn0.step)⟩
    ·replace c17 := Bool.eq_false_iff.mpr c17
     subst c17
     have H1 : (if a0 = 46 then (some true) else (if a0 = 95 then (some true) else (some (a0 == 36)))) = some r := by rw [if_neg (show ¬ (false = true) by decide)] at H; exact H
     replace H := H1; clear H1
     by_cases c18 : a0 = 46
     ·rw [if_pos c18] at H
      have c18b0 : (a0 == 46) = true := beq_iff_eq.mpr c18
      have c18b1 : (a0 != 46) = false := bne_eq_false_iff_eq.mpr c18
      clear c18
      as_aux_lemma =>
       obtain rfl := Option.some.inj H
       go_enter Try.func40, Try.ntmps40
       go_wp2_with (first | (go_at_call 41; (with_reducible refine (token_isDigit.calls a0 false _ A16.out).mono ?_); rintro e w' ⟨rfl, ⟨nd, rfl⟩⟩))
       go_ret
       exact ⟨by first | rfl | (simp; done) | (simp [*]; done), by repeat (first | exact Drawn0.refl _ | apply Drawn0.step)⟩
     ·rw [if_neg c18] at H
      have c18b0 : (a0 == 46) = false := beq_eq_false_iff_ne.mpr c18
      have c18b1 : (a0 != 46) = true := bne_iff_ne.mpr c18
      by_cases c19 : a0 = 95
      ·rw [if_pos c19] at H
       have c19b0 : (a0 == 95) = true := beq_iff_eq.mpr c19
       have c19b1 : (a0 != 95) = false := bne_eq_false_iff_eq.mpr c19
       clear c19
       as_aux_lemma =>
        obtain rfl := Option.some.inj H
        go_enter Try.func40, Try.ntmps40
        go_wp2_with (first | (go_at_call 41; (with_reducible refine (token_isDigit.calls a0 false _ A16.out).mono ?_); rintro e w' ⟨rfl, ⟨nd, rfl⟩⟩))
        go_ret
        exact ⟨by first | rfl | (simp; done) | (simp [*]; done), by repeat (first | exact Drawn0.refl _ | apply Drawn0.step)⟩
      ·rw [if_neg c19] at H
       have c19b0 : (a0 == 95) = false := beq_eq_false_iff_ne.mpr c19
       have c19b1 : (a0 != 95) = true := bne_iff_ne.mpr c19
       as_aux_lemma =>
        obtain rfl := Option.some.inj H
        go_enter Try.func40, Try.ntmps40
        go_wp2_with (first | (go_at_call 41; (with_reducible refine (token_isDigit.calls a0 false _ A16.out).mono ?_); rintro e w' ⟨rfl, ⟨nd, rfl⟩⟩))
        go_ret
        exact ⟨by first | rfl | (simp; done) | (simp [*]; done), by repeat (first | exact Drawn0.refl _ | apply Drawn0.step)⟩
  ·rw [if_neg c14] at H
   have c14b0 : decide (65 ≤ a0) = false := decide_eq_false c14
   clear c14
   replace H := Option.bind_eq_some_iff.mp H
   obtain ⟨t104, A200, H⟩ := H
   replace H : (if t104 = true then (some true) else (if a0 = 46 then (some true) else (if a0 = 95 then (some true) else (some (a0 == 36))))) = some r := H
   have A20 := Aside0.mk A200
   clear A200
   by_cases c21 : t104 = true
   ·subst c21
    have H1 : (some true) = some r := by rw [if_pos rfl] at H; exact H
    replace H := H1; clear H1
    as_aux_lemma =>
     obtain rfl := Option.some.inj H
     go_enter Try.func40, Try.ntmps40
     go_wp2_with (first | (go_at_call 41; (with_reducible refine (token_isDigit.calls a0 true _ A20.out).mono ?_); rintro e w' ⟨rfl, ⟨nd, rfl⟩⟩))
     go_ret
     exact ⟨by first | rfl | (simp; done) | (simp [*]; done), by repeat (first | exact Drawn0.refl _ | apply Drawn0.step)⟩
   ·replace c21 := Bool.eq_false_iff.mpr c21
    subst c21
    have H1 : (if a0 = 46 then (some true) else (if a0 = 95 then (some true) else (some (a0 == 36)))) = some r := by rw [if_neg (show ¬ (false = true) by decide)] at H; exact H
    replace H := H1; clear H1
    by_cases c22 : a0 = 46
    ·rw [if_pos c22] at H
     have c22b0 : (a0 == 46) = true := beq_iff_eq.mpr c22
     have c22b1 : (a0 != 46) = false := bne_eq_false_iff_eq.mpr c22
     clear c22
     as_aux_lemma =>
      obtain rfl := Option.some.inj H
      go_enter Try.func40, Try.ntmps40
      go_wp2_with (first | (go_at_call 41; (with_reducible refine (token_isDigit.calls a0 false _ A20.out).mono ?_); rintro e w' ⟨rfl, ⟨nd, rfl⟩⟩))
      go_ret
      exact ⟨by first | rfl | (simp; done) | (simp [*]; done), by repeat (first | exact Drawn0.refl _ | apply Drawn0.step)⟩
    ·rw [if_neg c22] at H
     have c22b0 : (a0 == 46) = false := beq_eq_false_iff_ne.mpr c22
     have c22b1 : (a0 != 46) = true := bne_iff_ne.mpr c22
     by_cases c23 : a0 = 95
     ·rw [if_pos c23] at H
      have c23b0 : (a0 == 95) = true := beq_iff_eq.mpr c23
      have c23b1 : (a0 != 95) = false := bne_eq_false_iff_eq.mpr c23
      clear c23
      as_aux_lemma =>
       obtain rfl := Option.some.inj H
       go_enter Try.func40, Try.ntmps40
       go_wp2_with (first | (go_at_call 41; (with_reducible refine (token_isDigit.calls a0 false _ A20.out).mono ?_); rintro e w' ⟨rfl, ⟨nd, rfl⟩⟩))
       go_ret
       exact ⟨by first | rfl | (simp; done) | (simp [*]; done), by repeat (first | exact Drawn0.refl _ | apply Drawn0.step)⟩
     ·rw [if_neg c23] at H
      have c23b0 : (a0 == 95) = false := beq_eq_false_iff_ne.mpr c23
      have c23b1 : (a0 != 95) = true := bne_iff_ne.mpr c23
      as_aux_lemma =>
       obtain rfl := Option.some.inj H
       go_enter Try.func40, Try.ntmps40
       go_wp2_with (first | (go_at_call 41; (with_reducible refine (token_isDigit.calls a0 false _ A20.out).mono ?_); rintro e w' ⟨rfl, ⟨nd, rfl⟩⟩))
       go_ret
       exact ⟨by first | rfl | (simp; done) | (simp [*]; done), by repeat (first | exact Drawn0.refl _ | apply Drawn0.step)⟩

end Go.Proofs.Ytpmlcmdojmdmhaa.PR
