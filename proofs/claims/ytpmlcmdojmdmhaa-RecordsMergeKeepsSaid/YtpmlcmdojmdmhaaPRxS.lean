-- Written by a program of this session's own for function contracts (after the kit's print): not trusted, Lean checks it.
import Derived.Test.YtpmlcmdojmdmhaaPRx0
namespace Go.Proofs.Ytpmlcmdojmdmhaa.PR
open Go.RowKit Go.Proofs.YtpmlcmdojmdmhaaW.PrintWords Go.Proofs.YtpmlcmdojmdmhaaW.PrintLast Go.Proofs.YtpmlcmdojmdmhaaW.PrintMore
attribute [local go_sem] max2_int min2_int max_two min_two max_three min_three max_four min_four   -- for this text's walks alone
set_option linter.unusedVariables false
set_option linter.unusedSimpArgs false
theorem eqA25 (d : Nat) (w : World) (x0 y0 : Int) (x1 y1 : Int) :
    (Op.equalIn (d + 2) 25 (.agg #[.int .i64 x0, .int .i64 x1]) (.agg #[.int .i64 y0, .int .i64 y1])).run Try.prog w = .ok (x0 == y0 && (x1 == y1)) w := by
  refine eqA_of Try.underlying25 (by kernel_rfl) ?_
  refine eqf_cons (by rfl) (by go_simp; rfl) (by go_simp; rfl) (by go_simp) ?_
  exact eqf_last (by rfl) (by go_simp; rfl) (by go_simp; rfl) (by go_simp)
/-! ### token_isDigit: function 41 -/
def token_isDigit.f (a0 : Int) : Option (Bool) := if a0 ≥ 48 then (some (decide (a0 ≤ 57))) else (some false)
set_option maxHeartbeats 8000000 in
set_option maxRecDepth 100000 in
theorem token_isDigit.calls (a0 : Int) (r : Bool) (w : World) (h : token_isDigit.f a0 = some r) :
    Calls Try.prog 41 #[.int .u8 a0] w fun e w' => e = .returned (.bool r) ∧ Drawn0 w w' := by
  have H : (if a0 ≥ 48 then (some (decide (a0 ≤ 57))) else (some false)) = some r := h
  clear h
  by_cases c2 : a0 ≥ 48
  · rw [if_pos c2] at H
    have c2b0 : decide (48 ≤ a0) = true := decide_eq_true c2
    clear c2
    as_aux_lemma =>
      obtain rfl := Option.some.inj H
      go_enter Try.func41, Try.ntmps41
      go_wp2
      go_ret
      exact ⟨by first | rfl | (simp; done) | (simp [*]; done), by repeat (first | exact Drawn0.refl _ | apply Drawn0.step)⟩
  · rw [if_neg c2] at H
    have c2b0 : decide (48 ≤ a0) = false := decide_eq_false c2
    clear c2
    as_aux_lemma =>
      obtain rfl := Option.some.inj H
      go_enter Try.func41, Try.ntmps41
      go_wp2
      go_ret
      exact ⟨by first | rfl | (simp; done) | (simp [*]; done), by repeat (first | exact Drawn0.refl _ | apply Drawn0.step)⟩
/-! ### token_isNameByte: function 40 -/
def token_isNameByte.f (a0 : Int) : Option (Bool) := if a0 ≥ 97 then (if a0 ≤ 122 then (some true) else (if a0 ≥ 65 then (if a0 ≤ 90 then (some true) else ((token_isDigit.f a0).bind fun t101 => (if t101 = true then (some true) else (if a0 = 46 then (some true) else (if a0 = 95 then (some true) else (some (a0 == 36))))))) else ((token_isDigit.f a0).bind fun t102 => (if t102 = true then (some true) else (if a0 = 46 then (some true) else (if a0 = 95 then (some true) else (some (a0 == 36)))))))) else (if a0 ≥ 65 then (if a0 ≤ 90 then (some true) else ((token_isDigit.f a0).bind fun t103 => (if t103 = true then (some true) else (if a0 = 46 then (some true) else (if a0 = 95 then (some true) else (some (a0 == 36))))))) else ((token_isDigit.f a0).bind fun t104 => (if t104 = true then (some true) else (if a0 = 46 then (some true) else (if a0 = 95 then (some true) else (some (a0 == 36)))))))
set_option maxHeartbeats 8000000 in
set_option maxRecDepth 100000 in
theorem token_isNameByte.calls (a0 : Int) (r : Bool) (w : World) (h : token_isNameByte.f a0 = some r) :
  Calls Try.prog 40 #[.int .u8 a0] w fun e w' => e = .returned (.bool r) ∧ Drawn0 w w' := by
 have H : (if a0 ≥ 97 then (if a0 ≤ 122 then (some true) else (if a0 ≥ 65 then (if a0 ≤ 90 then (some true) else ((token_isDigit.f a0).bind fun t101 => (if t101 = true then (some true) else (if a0 = 46 then (some true) else (if a0 = 95 then (some true) else (some (a0 == 36))))))) else ((token_isDigit.f a0).bind fun t102 => (if t102 = true then (some true) else (if a0 = 46 then (some true) else (if a0 = 95 then (some true) else (some (a0 == 36)))))))) else (if a0 ≥ 65 then (if a0 ≤ 90 then (some true) else ((token_isDigit.f a0).bind fun t103 => (if t103 = true then (some true) else (if a0 = 46 then (some true) else (if a0 = 95 then (some true) else (some (a0 == 36))))))) else ((token_isDigit.f a0).bind fun t104 => (if t104 = true then (some true) else (if a0 = 46 then (some true) else (if a0 = 95 then (some true) else (some (a0 == 36)))))))) = some r := h
 clear h
 by_cases c2 : a0 ≥ 97
 ·rw [if_pos c2] at H
  have c2b0 : decide (97 ≤ a0) = true := decide_eq_true c2
  clear c2
  by_cases c3 : a0 ≤ 122
  ·rw [if_pos c3] at H
   have c3b0 : decide (a0 ≤ 122) = true := decide_eq_true c3
   clear c3
   as_aux_lemma =>
    obtain rfl := Option.some.inj H
    go_enter Try.func40, Try.ntmps40
    go_wp2
    go_ret
    exact ⟨by first | rfl | (simp; done) | (simp [*]; done), by repeat (first | exact Drawn0.refl _ | apply Drawn0.step)⟩
  ·rw [if_neg c3] at H
   have c3b0 : decide (a0 ≤ 122) = false := decide_eq_false c3
   clear c3
   by_cases c4 : a0 ≥ 65
   ·rw [if_pos c4] at H
    have c4b0 : decide (65 ≤ a0) = true := decide_eq_true c4
    clear c4
    by_cases c5 : a0 ≤ 90
    ·rw [if_pos c5] at H
     have c5b0 : decide (a0 ≤ 90) = true := decide_eq_true c5
     clear c5
     as_aux_lemma =>
      obtain rfl := Option.some.inj H
      go_enter Try.func40, Try.ntmps40
      go_wp2
      go_ret
      exact ⟨by first | rfl | (simp; done) | (simp [*]; done), by repeat (first | exact Drawn0.refl _ | apply Drawn0.step)⟩
    ·rw [if_neg c5] at H
     have c5b0 : decide (a0 ≤ 90) = false := decide_eq_false c5
     clear c5
     replace H := Option.bind_eq_some_iff.mp H
     obtain ⟨t101, A60, H⟩ := H
     replace H : (if t101 = true then (some true) else (if a0 = 46 then (some true) else (if a0 = 95 then (some true) else (some (a0 == 36))))) = some r := H
     have A6 := Aside0.mk A60
     clear A60
     by_cases c7 : t101 = true
     ·subst c7
      have H1 : (some true) = some r := by rw [if_pos rfl] at H; exact H
      replace H := H1; clear H1
      as_aux_lemma =>
       obtain rfl := Option.some.inj H
       go_enter Try.func40, Try.ntmps40
       go_wp2_with (first | (go_at_call 41; (with_reducible refine (token_isDigit.calls a0 true _ A6.out).mono ?_); rintro e w' ⟨rfl, ⟨nd, rfl⟩⟩))
       go_ret
       exact ⟨by first | rfl | (simp; done) | (simp [*]; done), by repeat (first | exact Drawn0.refl _ | apply Drawn0.step)⟩
     ·replace c7 := Bool.eq_false_iff.mpr c7
      subst c7
      have H1 : (if a0 = 46 then (some true) else (if a0 = 95 then (some true) else (some (a0 == 36)))) = some r := by rw [if_neg (show ¬ (false = true) by decide)] at H; exact H
      replace H := H1; clear H1
      by_cases c8 : a0 = 46
      ·rw [if_pos c8] at H
       have c8b0 : (a0 == 46) = true := beq_iff_eq.mpr c8
       have c8b1 : (a0 != 46) = false := bne_eq_false_iff_eq.mpr c8
       clear c8
       as_aux_lemma =>
        obtain rfl := Option.some.inj H
        go_enter Try.func40, Try.ntmps40
        go_wp2_with (first | (go_at_call 41; (with_reducible refine (token_isDigit.calls a0 false _ A6.out).mono ?_); rintro e w' ⟨rfl, ⟨nd, rfl⟩⟩))
        go_ret
        exact ⟨by first | rfl | (simp; done) | (simp [*]; done), by repeat (first | exact Drawn0.refl _ | apply Drawn0.step)⟩
      ·rw [if_neg c8] at H
       have c8b0 : (a0 == 46) = false := beq_eq_false_iff_ne.mpr c8
       have c8b1 : (a0 != 46) = true := bne_iff_ne.mpr c8
       by_cases c9 : a0 = 95
       ·rw [if_pos c9] at H
        have c9b0 : (a0 == 95) = true := beq_iff_eq.mpr c9
        have c9b1 : (a0 != 95) = false := bne_eq_false_iff_eq.mpr c9
        clear c9
        as_aux_lemma =>
         obtain rfl := Option.some.inj H
         go_enter Try.func40, Try.ntmps40
         go_wp2_with (first | (go_at_call 41; (with_reducible refine (token_isDigit.calls a0 false _ A6.out).mono ?_); rintro e w' ⟨rfl, ⟨nd, rfl⟩⟩))
         go_ret
         exact ⟨by first | rfl | (simp; done) | (simp [*]; done), by repeat (first | exact Drawn0.refl _ | apply Drawn0.step)⟩
       ·rw [if_neg c9] at H
        have c9b0 : (a0 == 95) = false := beq_eq_false_iff_ne.mpr c9
        have c9b1 : (a0 != 95) = true := bne_iff_ne.mpr c9
        as_aux_lemma =>
         obtain rfl := Option.some.inj H
         go_enter Try.func40, Try.ntmps40
         go_wp2_with (first | (go_at_call 41; (with_reducible refine (token_isDigit.calls a0 false _ A6.out).mono ?_); rintro e w' ⟨rfl, ⟨nd, rfl⟩⟩))
         go_ret
         exact ⟨by first | rfl | (simp; done) | (simp [*]; done), by repeat (first | exact Drawn0.refl _ | apply Drawn0.step)⟩
   ·rw [if_neg c4] at H
    have c4b0 : decide (65 ≤ a0) = false := decide_eq_false c4
    clear c4
    replace H := Option.bind_eq_some_iff.mp H
    obtain ⟨t102, A100, H⟩ := H
    replace H : (if t102 = true then (some true) else (if a0 = 46 then (some true) else (if a0 = 95 then (some true) else (some (a0 == 36))))) = some r := H
    have A10 := Aside0.mk A100
    clear A100
    by_cases c11 : t102 = true
    ·subst c11
     have H1 : (some true) = some r := by rw [if_pos rfl] at H; exact H
     replace H := H1; clear H1
     as_aux_lemma =>
      obtain rfl := Option.some.inj H
      go_enter Try.func40, Try.ntmps40
      go_wp2_with (first | (go_at_call 41; (with_reducible refine (token_isDigit.calls a0 true _ A10.out).mono ?_); rintro e w' ⟨rfl, ⟨nd, rfl⟩⟩))
      go_ret
      exact ⟨by first | rfl | (simp; done) | (simp [*]; done), by repeat (first | exact Drawn0.refl _ | apply Drawn0.step)⟩
    ·replace c11 := Bool.eq_false_iff.mpr c11
     subst c11
     have H1 : (if a0 = 46 then (some true) else (if a0 = 95 then (some true) else (some (a0 == 36)))) = some r := by rw [if_neg (show ¬ (false = true) by decide)] at H; exact H
     replace H := H1; clear H1
     by_cases c12 : a0 = 46
     ·rw [if_pos c12] at H
      have c12b0 : (a0 == 46) = true := beq_iff_eq.mpr c12
      have c12b1 : (a0 != 46) = false := bne_eq_false_iff_eq.mpr c12
      clear c12
      as_aux_lemma =>
       obtain rfl := Option.some.inj H
       go_enter Try.func40, Try.ntmps40
       go_wp2_with (first | (go_at_call 41; (with_reducible refine (token_isDigit.calls a0 false _ A10.out).mono ?_); rintro e w' ⟨rfl, ⟨nd, rfl⟩⟩))
       go_ret
       exact ⟨by first | rfl | (simp; done) | (simp [*]; done), by repeat (first | exact Drawn0.refl _ | apply Drawn0.step)⟩
     ·rw [if_neg c12] at H
      have c12b0 : (a0 == 46) = false := beq_eq_false_iff_ne.mpr c12
      have c12b1 : (a0 != 46) = true := bne_iff_ne.mpr c12
      by_cases c13 : a0 = 95
      ·rw [if_pos c13] at H
       have c13b0 : (a0 == 95) = true := beq_iff_eq.mpr c13
       have c13b1 : (a0 != 95) = false := bne_eq_false_iff_eq.mpr c13
       clear c13
       as_aux_lemma =>
        obtain rfl := Option.some.inj H
        go_enter Try.func40, Try.ntmps40
        go_wp2_with (first | (go_at_call 41; (with_reducible refine (token_isDigit.calls a0 false _ A10.out).mono ?_); rintro e w' ⟨rfl, ⟨nd, rfl⟩⟩))
        go_ret
        exact ⟨by first | rfl | (simp; done) | (simp [*]; done), by repeat (first | exact Drawn0.refl _ | apply Drawn0.step)⟩
      ·rw [if_neg c13] at H
       have c13b0 : (a0 == 95) = false := beq_eq_false_iff_ne.mpr c13
       have c13b1 : (a0 != 95) = true := bne_iff_ne.mpr c13
       as_aux_lemma =>
        obtain rfl := Option.some.inj H
        go_enter Try.func40, Try.ntmps40
        go_wp2_with (first | (go_at_call 41; (with_reducible refine (token_isDigit.calls a0 false _ A10.out).mono ?_); rintro e w' ⟨rfl, ⟨nd, rfl⟩⟩))
        go_ret
        exact ⟨by first | rfl | (simp; done) | (simp [*]; done), by repeat (first | exact Drawn0.refl _ | apply Drawn0.step)⟩
 ·rw [if_neg c2] at H
  have c2b0 : decide (97 ≤ a0) = false := decide_eq_false c2
  clear c2
  by_cases c14 : a0 ≥ 65
  ·rw [if_pos c14] at H
   have c14b0 : decide (65 ≤ a0) = true := decide_eq_true c14
   clear c14
   by_cases c15 : a0 ≤ 90
   ·rw [if_pos c15] at H
    have c15b0 : decide (a0 ≤ 90) = true := decide_eq_true c15
    clear c15
    as_aux_lemma =>
     obtain rfl := Option.some.inj H
     go_enter Try.func40, Try.ntmps40
     go_wp2
     go_ret
     exact ⟨by first | rfl | (simp; done) | (simp [*]; done), by repeat (first | exact Drawn0.refl _ | apply Drawn0.step)⟩
   ·rw [if_neg c15] at H
    have c15b0 : decide (a0 ≤ 90) = false := decide_eq_false c15
    clear c15
    replace H := Option.bind_eq_some_iff.mp H
    obtain ⟨t103, A160, H⟩ := H
    replace H : (if t103 = true then (some true) else (if a0 = 46 then (some true) else (if a0 = 95 then (some true) else (some (a0 == 36))))) = some r := H
    have A16 := Aside0.mk A160
    clear A160
    by_cases c17 : t103 = true
    ·subst c17
     have H1 : (some true) = some r := by rw [if_pos rfl] at H; exact H
     replace H := H1; clear H1
     as_aux_lemma =>
      obtain rfl := Option.some.inj H
      go_enter Try.func40, Try.ntmps40
      go_wp2_with (first | (go_at_call 41; (with_reducible refine (token_isDigit.calls a0 true _ A16.out).mono ?_); rintro e w' ⟨rfl, ⟨nd, rfl⟩⟩))
      go_ret
      exact ⟨by first | rfl | (simp; done) | (simp [*]; done), by repeat (first | exact Drawn0.refl _ | apply Drawn0.step)⟩
    ·replace c17 := Bool.eq_false_iff.mpr c17
     subst c17
     have H1 : (if a0 = 46 then (some true) else (if a0 = 95 then (some true) else (some (a0 == 36)))) = some r := by rw [if_neg (show ¬ (false = true) by decide)] at H; exact H
     replace H := H1; clear H1
     by_cases c18 : a0 = 46
     ·rw [if_pos c18] at H
      have c18b0 : (a0 == 46) = true := beq_iff_eq.mpr c18
      have c18b1 : (a0 != 46) = false := bne_eq_false_iff_eq.mpr c18
      clear c18
      as_aux_lemma =>
       obtain rfl := Option.some.inj H
       go_enter Try.func40, Try.ntmps40
       go_wp2_with (first | (go_at_call 41; (with_reducible refine (token_isDigit.calls a0 false _ A16.out).mono ?_); rintro e w' ⟨rfl, ⟨nd, rfl⟩⟩))
       go_ret
       exact ⟨by first | rfl | (simp; done) | (simp [*]; done), by repeat (first | exact Drawn0.refl _ | apply Drawn0.step)⟩
     ·rw [if_neg c18] at H
      have c18b0 : (a0 == 46) = false := beq_eq_false_iff_ne.mpr c18
      have c18b1 : (a0 != 46) = true := bne_iff_ne.mpr c18
      by_cases c19 : a0 = 95
      ·rw [if_pos c19] at H
       have c19b0 : (a0 == 95) = true := beq_iff_eq.mpr c19
       have c19b1 : (a0 != 95) = false := bne_eq_false_iff_eq.mpr c19
       clear c19
       as_aux_lemma =>
        obtain rfl := Option.some.inj H
        go_enter Try.func40, Try.ntmps40
        go_wp2_with (first | (go_at_call 41; (with_reducible refine (token_isDigit.calls a0 false _ A16.out).mono ?_); rintro e w' ⟨rfl, ⟨nd, rfl⟩⟩))
        go_ret
        exact ⟨by first | rfl | (simp; done) | (simp [*]; done), by repeat (first | exact Drawn0.refl _ | apply Drawn0.step)⟩
      ·rw [if_neg c19] at H
       have c19b0 : (a0 == 95) = false := beq_eq_false_iff_ne.mpr c19
       have c19b1 : (a0 != 95) = true := bne_iff_ne.mpr c19
       as_aux_lemma =>
        obtain rfl := Option.some.inj H
        go_enter Try.func40, Try.ntmps40
        go_wp2_with (first | (go_at_call 41; (with_reducible refine (token_isDigit.calls a0 false _ A16.out).mono ?_); rintro e w' ⟨rfl, ⟨nd, rfl⟩⟩))
        go_ret
        exact ⟨by first | rfl | (simp; done) | (simp [*]; done), by repeat (first | exact Drawn0.refl _ | apply Drawn0.step)⟩
  ·rw [if_neg c14] at H
   have c14b0 : decide (65 ≤ a0) = false := decide_eq_false c14
   clear c14
   replace H := Option.bind_eq_some_iff.mp H
   obtain ⟨t104, A200, H⟩ := H
   replace H : (if t104 = true then (some true) else (if a0 = 46 then (some true) else (if a0 = 95 then (some true) else (some (a0 == 36))))) = some r := H
   have A20 := Aside0.mk A200
   clear A200
   by_cases c21 : t104 = true
   ·subst c21
    have H1 : (some true) = some r := by rw [if_pos rfl] at H; exact H
    replace H := H1; clear H1
    as_aux_lemma =>
     obtain rfl := Option.some.inj H
     go_enter Try.func40, Try.ntmps40
     go_wp2_with (first | (go_at_call 41; (with_reducible refine (token_isDigit.calls a0 true _ A20.out).mono ?_); rintro e w' ⟨rfl, ⟨nd, rfl⟩⟩))
     go_ret
     exact ⟨by first | rfl | (simp; done) | (simp [*]; done), by repeat (first | exact Drawn0.refl _ | apply Drawn0.step)⟩
   ·replace c21 := Bool.eq_false_iff.mpr c21
    subst c21
    have H1 : (if a0 = 46 then (some true) else (if a0 = 95 then (some true) else (some (a0 == 36)))) = some r := by rw [if_neg (show ¬ (false = true) by decide)] at H; exact H
    replace H := H1; clear H1
    by_cases c22 : a0 = 46
    ·rw [if_pos c22] at H
     have c22b0 : (a0 == 46) = true := beq_iff_eq.mpr c22
     have c22b1 : (a0 != 46) = false := bne_eq_false_iff_eq.mpr c22
     clear c22
     as_aux_lemma =>
      obtain rfl := Option.some.inj H
      go_enter Try.func40, Try.ntmps40
      go_wp2_with (first | (go_at_call 41; (with_reducible refine (token_isDigit.calls a0 false _ A20.out).mono ?_); rintro e w' ⟨rfl, ⟨nd, rfl⟩⟩))
      go_ret
      exact ⟨by first | rfl | (simp; done) | (simp [*]; done), by repeat (first | exact Drawn0.refl _ | apply Drawn0.step)⟩
    ·rw [if_neg c22] at H
     have c22b0 : (a0 == 46) = false := beq_eq_false_iff_ne.mpr c22
     have c22b1 : (a0 != 46) = true := bne_iff_ne.mpr c22
     by_cases c23 : a0 = 95
     ·rw [if_pos c23] at H
      have c23b0 : (a0 == 95) = true := beq_iff_eq.mpr c23
      have c23b1 : (a0 != 95) = false := bne_eq_false_iff_eq.mpr c23
      clear c23
      as_aux_lemma =>
       obtain rfl := Option.some.inj H
       go_enter Try.func40, Try.ntmps40
       go_wp2_with (first | (go_at_call 41; (with_reducible refine (token_isDigit.calls a0 false _ A20.out).mono ?_); rintro e w' ⟨rfl, ⟨nd, rfl⟩⟩))
       go_ret
       exact ⟨by first | rfl | (simp; done) | (simp [*]; done), by repeat (first | exact Drawn0.refl _ | apply Drawn0.step)⟩
     ·rw [if_neg c23] at H
      have c23b0 : (a0 == 95) = false := beq_eq_false_iff_ne.mpr c23
      have c23b1 : (a0 != 95) = true := bne_iff_ne.mpr c23
      as_aux_lemma =>
       obtain rfl := Option.some.inj H
       go_enter Try.func40, Try.ntmps40
       go_wp2_with (first | (go_at_call 41; (with_reducible refine (token_isDigit.calls a0 false _ A20.out).mono ?_); rintro e w' ⟨rfl, ⟨nd, rfl⟩⟩))
       go_ret
       exact ⟨by first | rfl | (simp; done) | (simp [*]; done), by repeat (first | exact Drawn0.refl _ | apply Drawn0.step)⟩
/-! ### token_IsName: function 33 -/
def token_IsName.l0 : Nat → ByteArray → Int → Int → Option (Bool)
  | 0, _, _, _ => none
  | k + 1, x0, x5, x6 => if x6 < x5 then (if 0 ≤ x6 then (if x6 < (x0.size : Int) then ((token_isNameByte.f (bt x0 x6)).bind fun t105 => (if t105 = true then (if x6 = 0 then ((token_isDigit.f (bt x0 x6)).bind fun t106 => (if t106 = true then (some false) else (token_IsName.l0 k x0 x5 (wrap64 (x6 + 1))))) else (token_IsName.l0 k x0 x5 (wrap64 (x6 + 1)))) else (some false))) else (none)) else (none)) else (if (x0.size : Int) ≥ 1 then (some (decide ((x0.size : Int) ≤ 16))) else (some false))
def token_IsName.f (k : Nat) (a0 : ByteArray) : Option (Bool) := token_IsName.l0 k a0 (a0.size : Int) 0
set_option maxHeartbeats 8000000 in
set_option maxRecDepth 100000 in
theorem token_IsName.calls (k : Nat) (a0 : ByteArray) (r : Bool) (w : World) (h : token_IsName.f k a0 = some r) :
  Calls Try.prog 33 #[.string a0] w fun e w' => e = .returned (.bool r) ∧ Drawn0 w w' := by
 have H : (token_IsName.l0 k a0 (a0.size : Int) 0) = some r := h
 clear h
 have H' := Aside0.mk H
 clear H
 go_enter Try.func33, Try.ntmps33
 go_wp2
 go_loopg [6] k (fun kq v6 w' => ∃ (x6_1 : Int), v6 = .int .i64 x6_1 ∧ Aside0 (token_IsName.l0 kq a0 (a0.size : Int) x6_1 = some r) ∧ Aside0 (kq ≤ k) ∧ Drawn0 w w')
 case atStart => exact ⟨(0), (by first | rfl | (simp; done) | (simp [*]; done)), H', ⟨Nat.le_refl _⟩, by repeat (first | exact Drawn0.refl _ | apply Drawn0.step)⟩
 case round =>
  clear H'
  obtain ⟨x6_1, rfl, HA, HK1, ⟨m1, rfl⟩⟩ := hrel
  cases gk with
  | zero => exact absurd HA.out (by simp [token_IsName.l0])
  | succ k1 =>
   have H := HA.out
   clear HA
   simp only [token_IsName.l0] at H
   by_cases c2 : x6_1 < (a0.size : Int)
   ·rw [if_pos c2] at H
    have c2b0 : decide (x6_1 < (a0.size : Int)) = true := decide_eq_true c2
    clear c2
    by_cases c3 : 0 ≤ x6_1
    case neg => rw [if_neg c3] at H; exact absurd H (by simp)
    rw [if_pos c3] at H
    have c3b0 : decide (0 ≤ x6_1) = true := decide_eq_true c3
    clear c3
    by_cases c4 : x6_1 < (a0.size : Int)
    case neg => rw [if_neg c4] at H; exact absurd H (by simp)
    rw [if_pos c4] at H
    have c4b0 : decide (x6_1 < (a0.size : Int)) = true := decide_eq_true c4
    clear c4
    replace H := Option.bind_eq_some_iff.mp H
    obtain ⟨t105, A60, H⟩ := H
    replace H : (if t105 = true then (if x6_1 = 0 then ((token_isDigit.f (bt a0 x6_1)).bind fun t106 => (if t106 = true then (some false) else (token_IsName.l0 k1 a0 (a0.size : Int) (wrap64 (x6_1 + 1))))) else (token_IsName.l0 k1 a0 (a0.size : Int) (wrap64 (x6_1 + 1)))) else (some false)) = some r := H
    have A6 := Aside0.mk A60
    clear A60
    by_cases c7 : t105 = true
    ·subst c7
     have H1 : (if x6_1 = 0 then ((token_isDigit.f (bt a0 x6_1)).bind fun t106 => (if t106 = true then (some false) else (token_IsName.l0 k1 a0 (a0.size : Int) (wrap64 (x6_1 + 1))))) else (token_IsName.l0 k1 a0 (a0.size : Int) (wrap64 (x6_1 + 1)))) = some r := by rw [if_pos rfl] at H; exact H
     replace H := H1; clear H1
     by_cases c8 : x6_1 = 0
     ·rw [if_pos c8] at H
      have c8b0 : (x6_1 == 0) = true := beq_iff_eq.mpr c8
      have c8b1 : (x6_1 != 0) = false := bne_eq_false_iff_eq.mpr c8
      clear c8
      replace H := Option.bind_eq_some_iff.mp H
      obtain ⟨t106, A100, H⟩ := H
      replace H : (if t106 = true then (some false) else (token_IsName.l0 k1 a0 (a0.size : Int) (wrap64 (x6_1 + 1)))) = some r := H
      have A10 := Aside0.mk A100
      clear A100
      by_cases c11 : t106 = true
      ·subst c11
       have H1 : (some false) = some r := by rw [if_pos rfl] at H; exact H
       replace H := H1; clear H1
       as_aux_lemma =>
        obtain rfl := Option.some.inj H
        have p5 : 0 ≤ (x6_1 : Int) := of_decide_eq_true (by first | (with_reducible assumption) | assumption)
        have q5 : x6_1 < (a0.size : Int) := of_decide_eq_true (by first | (with_reducible assumption) | assumption)
        have hx5 := bt_at a0 x6_1
        replace p5 := eq_true p5
        replace q5 := eq_true q5
        go_wp2_with (first | ((with_reducible refine gate_callee (f := 40) rfl ?_); refine goesL_ (some 12) rfl rfl Try.func40 (by kernel_rfl) rfl #[.int .u8 (bt a0 x6_1)] rfl (by (try simp only [List.map_toArray, List.map_cons, List.map_nil]); first | done | rfl | (simp only [List.length_drop, List.length_take]; rfl)) ?_; (with_reducible refine (token_isNameByte.calls (bt a0 x6_1) true _ A6.out).mono ?_); rintro e w' ⟨rfl, ⟨nd, rfl⟩⟩; refine ⟨_, rfl, ?_⟩; have p9 : 0 ≤ (x6_1 : Int) := of_decide_eq_true (by first | (with_reducible assumption) | assumption); have q9 : x6_1 < (a0.size : Int) := of_decide_eq_true (by first | (with_reducible assumption) | assumption); have hx9 := bt_at a0 x6_1; replace p9 := eq_true p9; replace q9 := eq_true q9) | (go_at_call 41; (with_reducible refine (token_isDigit.calls (bt a0 x6_1) true _ A10.out).mono ?_); rintro e w' ⟨rfl, ⟨nd, rfl⟩⟩))
        go_ret
        exact ⟨by first | rfl | (simp; done) | (simp [*]; done), by repeat (first | exact Drawn0.refl _ | apply Drawn0.step)⟩
      ·replace c11 := Bool.eq_false_iff.mpr c11
       subst c11
       have H1 : (token_IsName.l0 k1 a0 (a0.size : Int) (wrap64 (x6_1 + 1))) = some r := by rw [if_neg (show ¬ (false = true) by decide)] at H; exact H
       replace H := H1; clear H1
       as_aux_lemma =>
        have H' := Aside0.mk H
        clear H
        have p5 : 0 ≤ (x6_1 : Int) := of_decide_eq_true (by first | (with_reducible assumption) | assumption)
        have q5 : x6_1 < (a0.size : Int) := of_decide_eq_true (by first | (with_reducible assumption) | assumption)
        have hx5 := bt_at a0 x6_1
        replace p5 := eq_true p5
        replace q5 := eq_true q5
        go_wp2_with (first | ((with_reducible refine gate_callee (f := 40) rfl ?_); refine goesL_ (some 12) rfl rfl Try.func40 (by kernel_rfl) rfl #[.int .u8 (bt a0 x6_1)] rfl (by (try simp only [List.map_toArray, List.map_cons, List.map_nil]); first | done | rfl | (simp only [List.length_drop, List.length_take]; rfl)) ?_; (with_reducible refine (token_isNameByte.calls (bt a0 x6_1) true _ A6.out).mono ?_); rintro e w' ⟨rfl, ⟨nd, rfl⟩⟩; refine ⟨_, rfl, ?_⟩; have p9 : 0 ≤ (x6_1 : Int) := of_decide_eq_true (by first | (with_reducible assumption) | assumption); have q9 : x6_1 < (a0.size : Int) := of_decide_eq_true (by first | (with_reducible assumption) | assumption); have hx9 := bt_at a0 x6_1; replace p9 := eq_true p9; replace q9 := eq_true q9) | (go_at_call 41; (with_reducible refine (token_isDigit.calls (bt a0 x6_1) false _ A10.out).mono ?_); rintro e w' ⟨rfl, ⟨nd, rfl⟩⟩))
        go_roundg k1
        case measure => have := HK1.out; omega
        case rel => exact ⟨(wrap64 (x6_1 + 1)), (by first | rfl | (simp; done) | (simp [*]; done)), H', ⟨by have := HK1.out; omega⟩, by repeat (first | exact Drawn0.refl _ | apply Drawn0.step)⟩
     ·rw [if_neg c8] at H
      have c8b0 : (x6_1 == 0) = false := beq_eq_false_iff_ne.mpr c8
      have c8b1 : (x6_1 != 0) = true := bne_iff_ne.mpr c8
      as_aux_lemma =>
       have H' := Aside0.mk H
       clear H
       have p5 : 0 ≤ (x6_1 : Int) := of_decide_eq_true (by first | (with_reducible assumption) | assumption)
       have q5 : x6_1 < (a0.size : Int) := of_decide_eq_true (by first | (with_reducible assumption) | assumption)
       have hx5 := bt_at a0 x6_1
       replace p5 := eq_true p5
       replace q5 := eq_true q5
       go_wp2_with (first | ((with_reducible refine gate_callee (f := 40) rfl ?_); refine goesL_ (some 12) rfl rfl Try.func40 (by kernel_rfl) rfl #[.int .u8 (bt a0 x6_1)] rfl (by (try simp only [List.map_toArray, List.map_cons, List.map_nil]); first | done | rfl | (simp only [List.length_drop, List.length_take]; rfl)) ?_; (with_reducible refine (token_isNameByte.calls (bt a0 x6_1) true _ A6.out).mono ?_); rintro e w' ⟨rfl, ⟨nd, rfl⟩⟩; refine ⟨_, rfl, ?_⟩))
       go_roundg k1
       case measure => have := HK1.out; omega
       case rel => exact ⟨(wrap64 (x6_1 + 1)), (by first | rfl | (simp; done) | (simp [*]; done)), H', ⟨by have := HK1.out; omega⟩, by repeat (first | exact Drawn0.refl _ | apply Drawn0.step)⟩
    ·replace c7 := Bool.eq_false_iff.mpr c7
     subst c7
     have H1 : (some false) = some r := by rw [if_neg (show ¬ (false = true) by decide)] at H; exact H
     replace H := H1; clear H1
     as_aux_lemma =>
      obtain rfl := Option.some.inj H
      have p5 : 0 ≤ (x6_1 : Int) := of_decide_eq_true (by first | (with_reducible assumption) | assumption)
      have q5 : x6_1 < (a0.size : Int) := of_decide_eq_true (by first | (with_reducible assumption) | assumption)
      have hx5 := bt_at a0 x6_1
      replace p5 := eq_true p5
      replace q5 := eq_true q5
      go_wp2_with (first | ((with_reducible refine gate_callee (f := 40) rfl ?_); refine goesL_ (some 12) rfl rfl Try.func40 (by kernel_rfl) rfl #[.int .u8 (bt a0 x6_1)] rfl (by (try simp only [List.map_toArray, List.map_cons, List.map_nil]); first | done | rfl | (simp only [List.length_drop, List.length_take]; rfl)) ?_; (with_reducible refine (token_isNameByte.calls (bt a0 x6_1) false _ A6.out).mono ?_); rintro e w' ⟨rfl, ⟨nd, rfl⟩⟩; refine ⟨_, rfl, ?_⟩))
      go_ret
      exact ⟨by first | rfl | (simp; done) | (simp [*]; done), by repeat (first | exact Drawn0.refl _ | apply Drawn0.step)⟩
   ·rw [if_neg c2] at H
    have c2b0 : decide (x6_1 < (a0.size : Int)) = false := decide_eq_false c2
    clear c2
    by_cases c12 : (a0.size : Int) ≥ 1
    ·rw [if_pos c12] at H
     have c12b0 : decide (1 ≤ (a0.size : Int)) = true := decide_eq_true c12
     have c12b1 : decide (1 ≤ a0.size) = true := decide_eq_true (by omega)
     clear c12
     as_aux_lemma =>
      obtain rfl := Option.some.inj H
      go_wp2
      go_ret
      exact ⟨by first | rfl | (simp; done) | (simp [*]; done), by repeat (first | exact Drawn0.refl _ | apply Drawn0.step)⟩
    ·rw [if_neg c12] at H
     have c12b0 : decide (1 ≤ (a0.size : Int)) = false := decide_eq_false c12
     have c12b1 : decide (1 ≤ a0.size) = false := decide_eq_false (by omega)
     clear c12
     as_aux_lemma =>
      obtain rfl := Option.some.inj H
      go_wp2
      go_ret
      exact ⟨by first | rfl | (simp; done) | (simp [*]; done), by repeat (first | exact Drawn0.refl _ | apply Drawn0.step)⟩
/-! ### bits_Mul64: function 48 -/
def bits_Mul64.f (a0 : Int) (a1 : Int) : Option (Int × Int) := some (IntKind.u64.wrap ((IntKind.u64.wrap ((IntKind.u64.wrap ((a0 / 4294967296) * (a1 / 4294967296))) + ((IntKind.u64.wrap ((IntKind.u64.wrap ((a0 / 4294967296) * (Go.bits .and .u64 a1 4294967295))) + ((IntKind.u64.wrap ((Go.bits .and .u64 a0 4294967295) * (Go.bits .and .u64 a1 4294967295))) / 4294967296))) / 4294967296))) + ((IntKind.u64.wrap ((Go.bits .and .u64 (IntKind.u64.wrap ((IntKind.u64.wrap ((a0 / 4294967296) * (Go.bits .and .u64 a1 4294967295))) + ((IntKind.u64.wrap ((Go.bits .and .u64 a0 4294967295) * (Go.bits .and .u64 a1 4294967295))) / 4294967296))) 4294967295) + (IntKind.u64.wrap ((Go.bits .and .u64 a0 4294967295) * (a1 / 4294967296))))) / 4294967296)), IntKind.u64.wrap (a0 * a1))
set_option maxHeartbeats 8000000 in
set_option maxRecDepth 100000 in
theorem bits_Mul64.calls (a0 : Int) (a1 : Int) (r1 : Int) (r2 : Int) (w : World) (h : bits_Mul64.f a0 a1 = some (r1, r2)) :
    Calls Try.prog 48 #[.int .u64 a0, .int .u64 a1] w fun e w' => e = .returned (.tuple #[.int .u64 r1, .int .u64 r2]) ∧ Drawn0 w w' := by
  have H : (some (IntKind.u64.wrap ((IntKind.u64.wrap ((IntKind.u64.wrap ((a0 / 4294967296) * (a1 / 4294967296))) + ((IntKind.u64.wrap ((IntKind.u64.wrap ((a0 / 4294967296) * (Go.bits .and .u64 a1 4294967295))) + ((IntKind.u64.wrap ((Go.bits .and .u64 a0 4294967295) * (Go.bits .and .u64 a1 4294967295))) / 4294967296))) / 4294967296))) + ((IntKind.u64.wrap ((Go.bits .and .u64 (IntKind.u64.wrap ((IntKind.u64.wrap ((a0 / 4294967296) * (Go.bits .and .u64 a1 4294967295))) + ((IntKind.u64.wrap ((Go.bits .and .u64 a0 4294967295) * (Go.bits .and .u64 a1 4294967295))) / 4294967296))) 4294967295) + (IntKind.u64.wrap ((Go.bits .and .u64 a0 4294967295) * (a1 / 4294967296))))) / 4294967296)), IntKind.u64.wrap (a0 * a1))) = some (r1, r2) := h
  clear h
  simp only [Option.some.injEq, Prod.mk.injEq] at H
  obtain ⟨rfl, rfl⟩ := H
  go_enter Try.func48, Try.ntmps48
  go_wp2
  go_ret2
  exact ⟨by first | rfl | (simp; done) | (simp [*]; done), by repeat (first | exact Drawn0.refl _ | apply Drawn0.step)⟩
/-! ### bits_Mul: function 45 -/
def bits_Mul.f (a0 : Int) (a1 : Int) : Option (Int × Int) := (bits_Mul64.f a0 a1).bind fun bt150 => (some (bt150.1, bt150.2))
set_option maxHeartbeats 8000000 in
set_option maxRecDepth 100000 in
theorem bits_Mul.calls (a0 : Int) (a1 : Int) (r1 : Int) (r2 : Int) (w : World) (h : bits_Mul.f a0 a1 = some (r1, r2)) :
    Calls Try.prog 45 #[.int .u64 a0, .int .u64 a1] w fun e w' => e = .returned (.tuple #[.int .u64 r1, .int .u64 r2]) ∧ Drawn0 w w' := by
  have H : ((bits_Mul64.f a0 a1).bind fun bt150 => (some (bt150.1, bt150.2))) = some (r1, r2) := h
  clear h
  replace H := Option.bind_eq_some_iff.mp H
  obtain ⟨⟨t150, t151⟩, A30, H⟩ := H
  replace H : (some (t150, t151)) = some (r1, r2) := H
  have A3 := Aside0.mk A30
  clear A30
  simp only [Option.some.injEq, Prod.mk.injEq] at H
  obtain ⟨rfl, rfl⟩ := H
  go_enter Try.func45, Try.ntmps45
  go_wp2_with (first | ((with_reducible refine gate_callee (f := 48) rfl ?_); refine goesL_ (some 25) rfl rfl Try.func48 (by kernel_rfl) rfl #[.int .u64 a0, .int .u64 a1] rfl (by (try simp only [List.map_toArray, List.map_cons, List.map_nil]); first | done | rfl | (simp only [List.length_drop, List.length_take]; rfl)) ?_; (with_reducible refine (bits_Mul64.calls a0 a1 t150 t151 _ A3.out).mono ?_); rintro e w' ⟨rfl, ⟨nd, rfl⟩⟩; refine ⟨_, rfl, ?_⟩))
  go_ret2
  exact ⟨by first | rfl | (simp; done) | (simp [*]; done), by repeat (first | exact Drawn0.refl _ | apply Drawn0.step)⟩
/-! ### linkhouseref1_Ints: function 24 -/
def linkhouseref1_Ints.l0 : Nat → List Int → List Int → Int → Option (Bool)
  | 0, _, _, _ => none
  | k + 1, x0, x1, x5 => if x5 < (x0.length : Int) then (if 0 ≤ x5 then (if x5 < (x1.length : Int) then (if (rd x0 x5) = (rd x1 x5) then (linkhouseref1_Ints.l0 k x0 x1 (wrap64 (x5 + 1))) else (some false)) else (none)) else (none)) else (some true)
def linkhouseref1_Ints.f (k : Nat) (l0 : List Int) (l1 : List Int) : Option (Bool) := if (l0.length : Int) = (l1.length : Int) then (linkhouseref1_Ints.l0 k l0 l1 0) else (some false)
set_option maxHeartbeats 8000000 in
set_option maxRecDepth 100000 in
theorem linkhouseref1_Ints.calls (k : Nat) (A0 : Option Addr) (c0 : Nat) (l0 : List Int) (A1 : Option Addr) (c1 : Nat) (l1 : List Int) (r : Bool) (w : World) (hr0 : Kd.C (Kd.int .i64) w A0 l0.length l0) (hc0 : l0.length ≤ c0) (hr1 : Kd.C (Kd.int .i64) w A1 l1.length l1) (hc1 : l1.length ≤ c1) (h : linkhouseref1_Ints.f k l0 l1 = some r) :
    Calls Try.prog 24 #[.slice A0 l0.length c0, .slice A1 l1.length c1] w fun e w' => e = .returned (.bool r) ∧ Drawn0 w w' := by
  have HR0 := Aside0.mk hr0
  have HC0 := Aside0.mk hc0
  clear hr0 hc0
  have HR1 := Aside0.mk hr1
  have HC1 := Aside0.mk hc1
  clear hr1 hc1
  have H : (if (l0.length : Int) = (l1.length : Int) then (linkhouseref1_Ints.l0 k l0 l1 0) else (some false)) = some r := h
  clear h
  by_cases c3 : (l0.length : Int) = (l1.length : Int)
  · rw [if_pos c3] at H
    have c3b0 : ((l0.length : Int) == (l1.length : Int)) = true := beq_iff_eq.mpr c3
    have c3b1 : ((l0.length : Int) != (l1.length : Int)) = false := bne_eq_false_iff_eq.mpr c3
    have c3b2 : (l0.length == l1.length) = true := by first | simpa using c3 | (simp at c3 ⊢; omega)
    clear c3
    have H' := Aside0.mk H
    clear H
    go_enter Try.func24, Try.ntmps24
    go_wp2
    repeat (go_quiet (fail); try go_wp2)
    go_loopg [5] k (fun kq v5 w' => ∃ (x5_1 : Int), v5 = .int .i64 x5_1 ∧ Aside0 (linkhouseref1_Ints.l0 kq l0 l1 x5_1 = some r) ∧ Aside0 (kq ≤ k) ∧ Drawn0 w w')
    case atStart => exact ⟨(0), (by first | rfl | (simp; done) | (simp [*]; done)), H', ⟨Nat.le_refl _⟩, by repeat (first | exact Drawn0.refl _ | apply Drawn0.step)⟩
    case round =>
      clear H'
      try clear c1
      try clear c2
      try clear p2
      try clear c3
      try clear c3b0
      try clear c3b1
      try clear c3b2
      obtain ⟨x5_1, rfl, HA, HK1, ⟨m1, rfl⟩⟩ := hrel
      cases gk with
      | zero => exact absurd HA.out (by simp [linkhouseref1_Ints.l0])
      | succ k1 =>
        have H := HA.out
        clear HA
        simp only [linkhouseref1_Ints.l0] at H
        by_cases c4 : x5_1 < (l0.length : Int)
        · rw [if_pos c4] at H
          have c4b0 : decide (x5_1 < (l0.length : Int)) = true := decide_eq_true c4
          clear c4
          by_cases c5 : 0 ≤ x5_1
          · rw [if_pos c5] at H
            have c5b0 : decide (0 ≤ x5_1) = true := decide_eq_true c5
            clear c5
            by_cases c6 : x5_1 < (l1.length : Int)
            · rw [if_pos c6] at H
              have c6b0 : decide (x5_1 < (l1.length : Int)) = true := decide_eq_true c6
              clear c6
              by_cases c7 : (rd l0 x5_1) = (rd l1 x5_1)
              · rw [if_pos c7] at H
                have c7b0 : ((rd l0 x5_1) == (rd l1 x5_1)) = true := beq_iff_eq.mpr c7
                have c7b1 : ((rd l0 x5_1) != (rd l1 x5_1)) = false := bne_eq_false_iff_eq.mpr c7
                clear c7
                as_aux_lemma =>
                  have H' := Aside0.mk H
                  clear H
                  have p242 : 0 ≤ (x5_1 : Int) := of_decide_eq_true (by first | (with_reducible assumption) | assumption)
                  have q242 : x5_1 < (l0.length : Int) := of_decide_eq_true (by first | (with_reducible assumption) | assumption)
                  obtain ⟨ad242, e242, hx242_0⟩ := Kd.at_int HR0.out x5_1 p242 q242
                  cases e242
                  replace p242 := eq_true p242
                  replace q242 := eq_true q242
                  have p243 : 0 ≤ (x5_1 : Int) := of_decide_eq_true (by first | (with_reducible assumption) | assumption)
                  have q243 : x5_1 < (l1.length : Int) := of_decide_eq_true (by first | (with_reducible assumption) | assumption)
                  obtain ⟨ad243, e243, hx243_0⟩ := Kd.at_int HR1.out x5_1 p243 q243
                  cases e243
                  replace p243 := eq_true p243
                  replace q243 := eq_true q243
                  go_wp2
                  repeat (go_quiet (fail); try go_wp2)
                  go_roundg k1
                  case measure => have := HK1.out; omega
                  case rel => exact ⟨(wrap64 (x5_1 + 1)), (by first | rfl | (simp; done) | (simp [*]; done)), H', ⟨by have := HK1.out; omega⟩, by repeat (first | exact Drawn0.refl _ | apply Drawn0.step)⟩
              · rw [if_neg c7] at H
                have c7b0 : ((rd l0 x5_1) == (rd l1 x5_1)) = false := beq_eq_false_iff_ne.mpr c7
                have c7b1 : ((rd l0 x5_1) != (rd l1 x5_1)) = true := bne_iff_ne.mpr c7
                as_aux_lemma =>
                  obtain rfl := Option.some.inj H
                  have p242 : 0 ≤ (x5_1 : Int) := of_decide_eq_true (by first | (with_reducible assumption) | assumption)
                  have q242 : x5_1 < (l0.length : Int) := of_decide_eq_true (by first | (with_reducible assumption) | assumption)
                  obtain ⟨ad242, e242, hx242_0⟩ := Kd.at_int HR0.out x5_1 p242 q242
                  cases e242
                  replace p242 := eq_true p242
                  replace q242 := eq_true q242
                  have p243 : 0 ≤ (x5_1 : Int) := of_decide_eq_true (by first | (with_reducible assumption) | assumption)
                  have q243 : x5_1 < (l1.length : Int) := of_decide_eq_true (by first | (with_reducible assumption) | assumption)
                  obtain ⟨ad243, e243, hx243_0⟩ := Kd.at_int HR1.out x5_1 p243 q243
                  cases e243
                  replace p243 := eq_true p243
                  replace q243 := eq_true q243
                  go_wp2
                  repeat (go_quiet (fail); try go_wp2)
                  go_ret
                  exact ⟨by first | rfl | (simp; done) | (simp [*]; done), by repeat (first | exact Drawn0.refl _ | apply Drawn0.step)⟩
            · rw [if_neg c6] at H
              exact absurd H (by simp)
          · rw [if_neg c5] at H
            exact absurd H (by simp)
        · rw [if_neg c4] at H
          have c4b0 : decide (x5_1 < (l0.length : Int)) = false := decide_eq_false c4
          clear c4
          as_aux_lemma =>
            obtain rfl := Option.some.inj H
            go_wp2
            repeat (go_quiet (fail); try go_wp2)
            go_ret
            exact ⟨by first | rfl | (simp; done) | (simp [*]; done), by repeat (first | exact Drawn0.refl _ | apply Drawn0.step)⟩
  · rw [if_neg c3] at H
    have c3b0 : ((l0.length : Int) == (l1.length : Int)) = false := beq_eq_false_iff_ne.mpr c3
    have c3b1 : ((l0.length : Int) != (l1.length : Int)) = true := bne_iff_ne.mpr c3
    have c3b2 : (l0.length == l1.length) = false := by first | simpa using c3 | (simp at c3 ⊢; omega)
    as_aux_lemma =>
      obtain rfl := Option.some.inj H
      go_enter Try.func24, Try.ntmps24
      go_wp2
      repeat (go_quiet (fail); try go_wp2)
      go_ret
      exact ⟨by first | rfl | (simp; done) | (simp [*]; done), by repeat (first | exact Drawn0.refl _ | apply Drawn0.step)⟩
/-! ### linkhouseref1_At: function 16 -/
def linkhouseref1_At.f (a0 : Int) (a1 : Int) : Option (Int × Int) := some (a0, a1)
set_option maxHeartbeats 8000000 in
set_option maxRecDepth 100000 in
theorem linkhouseref1_At.calls (a0 : Int) (a1 : Int) (r1 : Int) (r2 : Int) (w : World) (h : linkhouseref1_At.f a0 a1 = some (r1, r2)) :
    Calls Try.prog 16 #[.int .i64 a0, .int .i64 a1] w fun e w' => e = .returned (.agg #[.int .i64 r1, .int .i64 r2]) ∧ Below w.heap.size w w' := by
  have hu25 := Try.underlying25
  have HB := Aside0.mk (Below.refl w.heap.size w)
  have H : (some (a0, a1)) = some (r1, r2) := h
  clear h
  as_aux_lemma =>
    simp only [Option.some.injEq, Prod.mk.injEq] at H
    obtain ⟨rfl, rfl⟩ := H
    go_enter Try.func16, Try.ntmps16
    go_wp2_with (first | ((with_reducible refine gate_dst (N := 4) rfl ?_); refine box_event ?hg (N := 4) ?hd (cs := #[.int .i64 0, .int .i64 0]) (t := 25) ?hr ?_; (case hd => rfl); (case hg => rfl); (case hr => first | (go_simp; done) | (go_simp; rfl)); intro gb297 hg w3 hbox hb; have n0_ := Aside0.mk (below_step (by repeat (first | (with_reducible first | exact HB.out | apply below_alloc | apply pw_below_drewN | apply below_drew1) | exact HB.out)) hb); have n1_ := Aside0.mk (hbox); have n2_ := Aside0.mk ((by rw [hg]; exact (below_size (by repeat (first | (with_reducible first | exact HB.out | apply below_alloc | apply pw_below_drewN | apply below_drew1) | exact HB.out))) : w.heap.size ≤ gb297)); have n3_ := Aside0.mk ((by rw [hg]; exact (below_size (by repeat (first | (with_reducible first | exact HB.out | apply below_alloc | apply pw_below_drewN | apply below_drew1) | exact HB.out))) : w.heap.size ≤ gb297)); clear HB; have HB := n0_; have BK297 := n1_; have GW297 := n2_; have GE297 := n3_; clear n0_ n1_ n2_ n3_; clear hb hbox hg; obtain ⟨hcz4_0, hcz4_1, hfz4_0, hfz4_1⟩ := cells2 BK297.out))
    refine bodyPost_ret (results_cell_row rfl _ _ gb297 25 #[.int .i64 a0, .int .i64 a1] (0, 0) _ rfl (by (with_reducible repeat (first | refine blk_drewN ?_ _ | refine blk_drew ?_ | refine blk_alloc ?_ _)); refine blk_put (cs := #[.int .i64 a0, .int .i64 0]) ?_ 1 _ rfl; (with_reducible repeat (first | refine blk_drewN ?_ _ | refine blk_drew ?_ | refine blk_alloc ?_ _)); refine blk_put (cs := #[.int .i64 0, .int .i64 0]) ?_ 0 _ rfl; (with_reducible repeat (first | refine blk_drewN ?_ _ | refine blk_drew ?_ | refine blk_alloc ?_ _)); exact BK297.out) Try.underlying25 rfl (by kernel_rfl)) rfl ?_
    exact ⟨by first | rfl | (simp [errW_none, errW_some] <;> rfl) | (simp [*, errW_none, errW_some] <;> rfl), by repeat (first | (with_reducible first | exact HB.out | apply below_alloc | apply pw_below_drewN | apply below_drew1 | refine below_set ?_ GE297.out) | exact HB.out)⟩
/-! ### linkhouseref1_In: function 20 -/
def linkhouseref1_In.f (a0 : Int) (a1 : Int) (a2 : Int) : Option (Bool) := if a0 ≥ a1 then (some (decide (a0 ≤ a2))) else (some false)
set_option maxHeartbeats 8000000 in
set_option maxRecDepth 100000 in
theorem linkhouseref1_In.calls (a0 : Int) (a1 : Int) (a2 : Int) (r : Bool) (w : World) (h : linkhouseref1_In.f a0 a1 a2 = some r) :
    Calls Try.prog 20 #[.int .i64 a0, .int .i64 a1, .int .i64 a2] w fun e w' => e = .returned (.bool r) ∧ Drawn0 w w' := by
  have H : (if a0 ≥ a1 then (some (decide (a0 ≤ a2))) else (some false)) = some r := h
  clear h
  by_cases c4 : a0 ≥ a1
  · rw [if_pos c4] at H
    have c4b0 : decide (a1 ≤ a0) = true := decide_eq_true c4
    clear c4
    as_aux_lemma =>
      obtain rfl := Option.some.inj H
      go_enter Try.func20, Try.ntmps20
      go_wp2
      go_ret
      exact ⟨by first | rfl | (simp; done) | (simp [*]; done), by repeat (first | exact Drawn0.refl _ | apply Drawn0.step)⟩
  · rw [if_neg c4] at H
    have c4b0 : decide (a1 ≤ a0) = false := decide_eq_false c4
    clear c4
    as_aux_lemma =>
      obtain rfl := Option.some.inj H
      go_enter Try.func20, Try.ntmps20
      go_wp2
      go_ret
      exact ⟨by first | rfl | (simp; done) | (simp [*]; done), by repeat (first | exact Drawn0.refl _ | apply Drawn0.step)⟩
/-! ### linkhouseref1_NameByte: function 44 -/
def linkhouseref1_NameByte.f (a0 : Int) : Option (Bool) := (linkhouseref1_In.f (wrap64 (a0)) 97 122).bind fun t298 => (if t298 = true then (some true) else ((linkhouseref1_In.f (wrap64 (a0)) 65 90).bind fun t299 => (if t299 = true then (some true) else ((linkhouseref1_In.f (wrap64 (a0)) 48 57).bind fun t300 => (if t300 = true then (some true) else (if a0 = 46 then (some true) else (if a0 = 95 then (some true) else (some (a0 == 36)))))))))
set_option maxHeartbeats 8000000 in
set_option maxRecDepth 100000 in
theorem linkhouseref1_NameByte.calls (a0 : Int) (r : Bool) (w : World) (h : linkhouseref1_NameByte.f a0 = some r) :
    Calls Try.prog 44 #[.int .u8 a0] w fun e w' => e = .returned (.bool r) ∧ Drawn0 w w' := by
  have H : ((linkhouseref1_In.f (wrap64 (a0)) 97 122).bind fun t298 => (if t298 = true then (some true) else ((linkhouseref1_In.f (wrap64 (a0)) 65 90).bind fun t299 => (if t299 = true then (some true) else ((linkhouseref1_In.f (wrap64 (a0)) 48 57).bind fun t300 => (if t300 = true then (some true) else (if a0 = 46 then (some true) else (if a0 = 95 then (some true) else (some (a0 == 36)))))))))) = some r := h
  clear h
  replace H := Option.bind_eq_some_iff.mp H
  obtain ⟨t298, A20, H⟩ := H
  replace H : (if t298 = true then (some true) else ((linkhouseref1_In.f (wrap64 (a0)) 65 90).bind fun t299 => (if t299 = true then (some true) else ((linkhouseref1_In.f (wrap64 (a0)) 48 57).bind fun t300 => (if t300 = true then (some true) else (if a0 = 46 then (some true) else (if a0 = 95 then (some true) else (some (a0 == 36))))))))) = some r := H
  have A2 := Aside0.mk A20
  clear A20
  by_cases c3 : t298 = true
  · subst c3
    have H1 : (some true) = some r := by rw [if_pos rfl] at H; exact H
    clear H
    have H := H1
    clear H1
    as_aux_lemma =>
      obtain rfl := Option.some.inj H
      go_enter Try.func44, Try.ntmps44
      go_wp2_with (first | ((with_reducible refine gate_callee (f := 20) rfl ?_); refine goesL_ (some 7) rfl rfl Try.func20 (by kernel_rfl) rfl #[.int .i64 (wrap64 (a0)), .int .i64 97, .int .i64 122] rfl (by (try simp only [List.map_toArray, List.map_cons, List.map_nil]); first | done | rfl | (simp only [List.length_drop, List.length_take]; rfl)) ?_; (with_reducible refine (linkhouseref1_In.calls (wrap64 (a0)) 97 122 true _ A2.out).mono ?_); rintro e w' ⟨rfl, ⟨nd, rfl⟩⟩; refine ⟨_, rfl, ?_⟩))
      go_ret
      exact ⟨by first | rfl | (simp; done) | (simp [*]; done), by repeat (first | exact Drawn0.refl _ | apply Drawn0.step)⟩
  · replace c3 := Bool.eq_false_iff.mpr c3
    subst c3
    have H1 : ((linkhouseref1_In.f (wrap64 (a0)) 65 90).bind fun t299 => (if t299 = true then (some true) else ((linkhouseref1_In.f (wrap64 (a0)) 48 57).bind fun t300 => (if t300 = true then (some true) else (if a0 = 46 then (some true) else (if a0 = 95 then (some true) else (some (a0 == 36)))))))) = some r := by rw [if_neg (show ¬ (false = true) by decide)] at H; exact H
    clear H
    have H := H1
    clear H1
    replace H := Option.bind_eq_some_iff.mp H
    obtain ⟨t299, A40, H⟩ := H
    replace H : (if t299 = true then (some true) else ((linkhouseref1_In.f (wrap64 (a0)) 48 57).bind fun t300 => (if t300 = true then (some true) else (if a0 = 46 then (some true) else (if a0 = 95 then (some true) else (some (a0 == 36))))))) = some r := H
    have A4 := Aside0.mk A40
    clear A40
    by_cases c5 : t299 = true
    · subst c5
      have H1 : (some true) = some r := by rw [if_pos rfl] at H; exact H
      clear H
      have H := H1
      clear H1
      as_aux_lemma =>
        obtain rfl := Option.some.inj H
        go_enter Try.func44, Try.ntmps44
        go_wp2_with (first | ((with_reducible refine gate_callee (f := 20) rfl ?_); refine goesL_ (some 7) rfl rfl Try.func20 (by kernel_rfl) rfl #[.int .i64 (wrap64 (a0)), .int .i64 97, .int .i64 122] rfl (by (try simp only [List.map_toArray, List.map_cons, List.map_nil]); first | done | rfl | (simp only [List.length_drop, List.length_take]; rfl)) ?_; (with_reducible refine (linkhouseref1_In.calls (wrap64 (a0)) 97 122 false _ A2.out).mono ?_); rintro e w' ⟨rfl, ⟨nd, rfl⟩⟩; refine ⟨_, rfl, ?_⟩) | (go_at_call 20; (with_reducible refine (linkhouseref1_In.calls (wrap64 (a0)) 65 90 true _ A4.out).mono ?_); rintro e w' ⟨rfl, ⟨nd, rfl⟩⟩))
        go_ret
        exact ⟨by first | rfl | (simp; done) | (simp [*]; done), by repeat (first | exact Drawn0.refl _ | apply Drawn0.step)⟩
    · replace c5 := Bool.eq_false_iff.mpr c5
      subst c5
      have H1 : ((linkhouseref1_In.f (wrap64 (a0)) 48 57).bind fun t300 => (if t300 = true then (some true) else (if a0 = 46 then (some true) else (if a0 = 95 then (some true) else (some (a0 == 36)))))) = some r := by rw [if_neg (show ¬ (false = true) by decide)] at H; exact H
      clear H
      have H := H1
      clear H1
      replace H := Option.bind_eq_some_iff.mp H
      obtain ⟨t300, A60, H⟩ := H
      replace H : (if t300 = true then (some true) else (if a0 = 46 then (some true) else (if a0 = 95 then (some true) else (some (a0 == 36))))) = some r := H
      have A6 := Aside0.mk A60
      clear A60
      by_cases c7 : t300 = true
      · subst c7
        have H1 : (some true) = some r := by rw [if_pos rfl] at H; exact H
        clear H
        have H := H1
        clear H1
        as_aux_lemma =>
          obtain rfl := Option.some.inj H
          go_enter Try.func44, Try.ntmps44
          go_wp2_with (first | ((with_reducible refine gate_callee (f := 20) rfl ?_); refine goesL_ (some 7) rfl rfl Try.func20 (by kernel_rfl) rfl #[.int .i64 (wrap64 (a0)), .int .i64 97, .int .i64 122] rfl (by (try simp only [List.map_toArray, List.map_cons, List.map_nil]); first | done | rfl | (simp only [List.length_drop, List.length_take]; rfl)) ?_; (with_reducible refine (linkhouseref1_In.calls (wrap64 (a0)) 97 122 false _ A2.out).mono ?_); rintro e w' ⟨rfl, ⟨nd, rfl⟩⟩; refine ⟨_, rfl, ?_⟩) | (go_at_call 20; (with_reducible refine (linkhouseref1_In.calls (wrap64 (a0)) 65 90 false _ A4.out).mono ?_); rintro e w' ⟨rfl, ⟨nd, rfl⟩⟩) | (go_at_call 20; (with_reducible refine (linkhouseref1_In.calls (wrap64 (a0)) 48 57 true _ A6.out).mono ?_); rintro e w' ⟨rfl, ⟨nd, rfl⟩⟩))
          go_ret
          exact ⟨by first | rfl | (simp; done) | (simp [*]; done), by repeat (first | exact Drawn0.refl _ | apply Drawn0.step)⟩
      · replace c7 := Bool.eq_false_iff.mpr c7
        subst c7
        have H1 : (if a0 = 46 then (some true) else (if a0 = 95 then (some true) else (some (a0 == 36)))) = some r := by rw [if_neg (show ¬ (false = true) by decide)] at H; exact H
        clear H
        have H := H1
        clear H1
        by_cases c8 : a0 = 46
        · rw [if_pos c8] at H
          have c8b0 : (a0 == 46) = true := beq_iff_eq.mpr c8
          have c8b1 : (a0 != 46) = false := bne_eq_false_iff_eq.mpr c8
          clear c8
          as_aux_lemma =>
            obtain rfl := Option.some.inj H
            go_enter Try.func44, Try.ntmps44
            go_wp2_with (first | ((with_reducible refine gate_callee (f := 20) rfl ?_); refine goesL_ (some 7) rfl rfl Try.func20 (by kernel_rfl) rfl #[.int .i64 (wrap64 (a0)), .int .i64 97, .int .i64 122] rfl (by (try simp only [List.map_toArray, List.map_cons, List.map_nil]); first | done | rfl | (simp only [List.length_drop, List.length_take]; rfl)) ?_; (with_reducible refine (linkhouseref1_In.calls (wrap64 (a0)) 97 122 false _ A2.out).mono ?_); rintro e w' ⟨rfl, ⟨nd, rfl⟩⟩; refine ⟨_, rfl, ?_⟩) | (go_at_call 20; (with_reducible refine (linkhouseref1_In.calls (wrap64 (a0)) 65 90 false _ A4.out).mono ?_); rintro e w' ⟨rfl, ⟨nd, rfl⟩⟩) | (go_at_call 20; (with_reducible refine (linkhouseref1_In.calls (wrap64 (a0)) 48 57 false _ A6.out).mono ?_); rintro e w' ⟨rfl, ⟨nd, rfl⟩⟩))
            go_ret
            exact ⟨by first | rfl | (simp; done) | (simp [*]; done), by repeat (first | exact Drawn0.refl _ | apply Drawn0.step)⟩
        · rw [if_neg c8] at H
          have c8b0 : (a0 == 46) = false := beq_eq_false_iff_ne.mpr c8
          have c8b1 : (a0 != 46) = true := bne_iff_ne.mpr c8
          by_cases c9 : a0 = 95
          · rw [if_pos c9] at H
            have c9b0 : (a0 == 95) = true := beq_iff_eq.mpr c9
            have c9b1 : (a0 != 95) = false := bne_eq_false_iff_eq.mpr c9
            clear c9
            as_aux_lemma =>
              obtain rfl := Option.some.inj H
              go_enter Try.func44, Try.ntmps44
              go_wp2_with (first | ((with_reducible refine gate_callee (f := 20) rfl ?_); refine goesL_ (some 7) rfl rfl Try.func20 (by kernel_rfl) rfl #[.int .i64 (wrap64 (a0)), .int .i64 97, .int .i64 122] rfl (by (try simp only [List.map_toArray, List.map_cons, List.map_nil]); first | done | rfl | (simp only [List.length_drop, List.length_take]; rfl)) ?_; (with_reducible refine (linkhouseref1_In.calls (wrap64 (a0)) 97 122 false _ A2.out).mono ?_); rintro e w' ⟨rfl, ⟨nd, rfl⟩⟩; refine ⟨_, rfl, ?_⟩) | (go_at_call 20; (with_reducible refine (linkhouseref1_In.calls (wrap64 (a0)) 65 90 false _ A4.out).mono ?_); rintro e w' ⟨rfl, ⟨nd, rfl⟩⟩) | (go_at_call 20; (with_reducible refine (linkhouseref1_In.calls (wrap64 (a0)) 48 57 false _ A6.out).mono ?_); rintro e w' ⟨rfl, ⟨nd, rfl⟩⟩))
              go_ret
              exact ⟨by first | rfl | (simp; done) | (simp [*]; done), by repeat (first | exact Drawn0.refl _ | apply Drawn0.step)⟩
          · rw [if_neg c9] at H
            have c9b0 : (a0 == 95) = false := beq_eq_false_iff_ne.mpr c9
            have c9b1 : (a0 != 95) = true := bne_iff_ne.mpr c9
            as_aux_lemma =>
              obtain rfl := Option.some.inj H
              go_enter Try.func44, Try.ntmps44
              go_wp2_with (first | ((with_reducible refine gate_callee (f := 20) rfl ?_); refine goesL_ (some 7) rfl rfl Try.func20 (by kernel_rfl) rfl #[.int .i64 (wrap64 (a0)), .int .i64 97, .int .i64 122] rfl (by (try simp only [List.map_toArray, List.map_cons, List.map_nil]); first | done | rfl | (simp only [List.length_drop, List.length_take]; rfl)) ?_; (with_reducible refine (linkhouseref1_In.calls (wrap64 (a0)) 97 122 false _ A2.out).mono ?_); rintro e w' ⟨rfl, ⟨nd, rfl⟩⟩; refine ⟨_, rfl, ?_⟩) | (go_at_call 20; (with_reducible refine (linkhouseref1_In.calls (wrap64 (a0)) 65 90 false _ A4.out).mono ?_); rintro e w' ⟨rfl, ⟨nd, rfl⟩⟩) | (go_at_call 20; (with_reducible refine (linkhouseref1_In.calls (wrap64 (a0)) 48 57 false _ A6.out).mono ?_); rintro e w' ⟨rfl, ⟨nd, rfl⟩⟩))
              go_ret
              exact ⟨by first | rfl | (simp; done) | (simp [*]; done), by repeat (first | exact Drawn0.refl _ | apply Drawn0.step)⟩
/-! ### linkhouseref1_Name: function 35 -/
def linkhouseref1_Name.l0 : Nat → ByteArray → Int → Option (Bool)
  | 0, _, _ => none
  | k + 1, x0, x3 => if x3 < (x0.size : Int) then (if 0 ≤ x3 then ((linkhouseref1_NameByte.f (bt x0 x3)).bind fun t301 => (if t301 = true then (linkhouseref1_Name.l0 k x0 (wrap64 (x3 + 1))) else (some false))) else (none)) else ((linkhouseref1_In.f (x0.size : Int) 1 16).bind fun t302 => (if t302 = true then (if 0 < (x0.size : Int) then ((linkhouseref1_In.f (wrap64 (bt x0 0)) 48 57).bind fun t303 => (some (!t303))) else (none)) else (some false)))
def linkhouseref1_Name.f (k : Nat) (a0 : ByteArray) : Option (Bool) := linkhouseref1_Name.l0 k a0 0
set_option maxHeartbeats 8000000 in
set_option maxRecDepth 100000 in
theorem linkhouseref1_Name.calls (k : Nat) (a0 : ByteArray) (r : Bool) (w : World) (h : linkhouseref1_Name.f k a0 = some r) :
    Calls Try.prog 35 #[.string a0] w fun e w' => e = .returned (.bool r) ∧ Drawn0 w w' := by
  have H : (linkhouseref1_Name.l0 k a0 0) = some r := h
  clear h
  have H' := Aside0.mk H
  clear H
  go_enter Try.func35, Try.ntmps35
  go_wp2
  go_loopg [3] k (fun kq v3 w' => ∃ (x3_1 : Int), v3 = .int .i64 x3_1 ∧ Aside0 (linkhouseref1_Name.l0 kq a0 x3_1 = some r) ∧ Aside0 (kq ≤ k) ∧ Drawn0 w w')
  case atStart => exact ⟨(0), (by first | rfl | (simp; done) | (simp [*]; done)), H', ⟨Nat.le_refl _⟩, by repeat (first | exact Drawn0.refl _ | apply Drawn0.step)⟩
  case round =>
    clear H'
    obtain ⟨x3_1, rfl, HA, HK1, ⟨m1, rfl⟩⟩ := hrel
    cases gk with
    | zero => exact absurd HA.out (by simp [linkhouseref1_Name.l0])
    | succ k1 =>
      have H := HA.out
      clear HA
      simp only [linkhouseref1_Name.l0] at H
      by_cases c2 : x3_1 < (a0.size : Int)
      · rw [if_pos c2] at H
        have c2b0 : decide (x3_1 < (a0.size : Int)) = true := decide_eq_true c2
        clear c2
        by_cases c3 : 0 ≤ x3_1
        · rw [if_pos c3] at H
          have c3b0 : decide (0 ≤ x3_1) = true := decide_eq_true c3
          clear c3
          replace H := Option.bind_eq_some_iff.mp H
          obtain ⟨t301, A50, H⟩ := H
          replace H : (if t301 = true then (linkhouseref1_Name.l0 k1 a0 (wrap64 (x3_1 + 1))) else (some false)) = some r := H
          have A5 := Aside0.mk A50
          clear A50
          by_cases c6 : t301 = true
          · subst c6
            have H1 : (linkhouseref1_Name.l0 k1 a0 (wrap64 (x3_1 + 1))) = some r := by rw [if_pos rfl] at H; exact H
            clear H
            have H := H1
            clear H1
            as_aux_lemma =>
              have H' := Aside0.mk H
              clear H
              have p4 : 0 ≤ (x3_1 : Int) := of_decide_eq_true (by first | (with_reducible assumption) | assumption)
              have q4 : x3_1 < (a0.size : Int) := of_decide_eq_true (by first | (with_reducible assumption) | assumption)
              have hx4 := bt_at a0 x3_1
              replace p4 := eq_true p4
              replace q4 := eq_true q4
              go_wp2_with (first | ((with_reducible refine gate_callee (f := 44) rfl ?_); refine goesL_ (some 13) rfl rfl Try.func44 (by kernel_rfl) rfl #[.int .u8 (bt a0 x3_1)] rfl (by (try simp only [List.map_toArray, List.map_cons, List.map_nil]); first | done | rfl | (simp only [List.length_drop, List.length_take]; rfl)) ?_; (with_reducible refine (linkhouseref1_NameByte.calls (bt a0 x3_1) true _ A5.out).mono ?_); rintro e w' ⟨rfl, ⟨nd, rfl⟩⟩; refine ⟨_, rfl, ?_⟩))
              go_roundg k1
              case measure => have := HK1.out; omega
              case rel => exact ⟨(wrap64 (x3_1 + 1)), (by first | rfl | (simp; done) | (simp [*]; done)), H', ⟨by have := HK1.out; omega⟩, by repeat (first | exact Drawn0.refl _ | apply Drawn0.step)⟩
          · replace c6 := Bool.eq_false_iff.mpr c6
            subst c6
            have H1 : (some false) = some r := by rw [if_neg (show ¬ (false = true) by decide)] at H; exact H
            clear H
            have H := H1
            clear H1
            as_aux_lemma =>
              obtain rfl := Option.some.inj H
              have p4 : 0 ≤ (x3_1 : Int) := of_decide_eq_true (by first | (with_reducible assumption) | assumption)
              have q4 : x3_1 < (a0.size : Int) := of_decide_eq_true (by first | (with_reducible assumption) | assumption)
              have hx4 := bt_at a0 x3_1
              replace p4 := eq_true p4
              replace q4 := eq_true q4
              go_wp2_with (first | ((with_reducible refine gate_callee (f := 44) rfl ?_); refine goesL_ (some 13) rfl rfl Try.func44 (by kernel_rfl) rfl #[.int .u8 (bt a0 x3_1)] rfl (by (try simp only [List.map_toArray, List.map_cons, List.map_nil]); first | done | rfl | (simp only [List.length_drop, List.length_take]; rfl)) ?_; (with_reducible refine (linkhouseref1_NameByte.calls (bt a0 x3_1) false _ A5.out).mono ?_); rintro e w' ⟨rfl, ⟨nd, rfl⟩⟩; refine ⟨_, rfl, ?_⟩))
              go_ret
              exact ⟨by first | rfl | (simp; done) | (simp [*]; done), by repeat (first | exact Drawn0.refl _ | apply Drawn0.step)⟩
        · rw [if_neg c3] at H
          exact absurd H (by simp)
      · rw [if_neg c2] at H
        have c2b0 : decide (x3_1 < (a0.size : Int)) = false := decide_eq_false c2
        clear c2
        replace H := Option.bind_eq_some_iff.mp H
        obtain ⟨t302, A70, H⟩ := H
        replace H : (if t302 = true then (if 0 < (a0.size : Int) then ((linkhouseref1_In.f (wrap64 (bt a0 0)) 48 57).bind fun t303 => (some (!t303))) else (none)) else (some false)) = some r := H
        have A7 := Aside0.mk A70
        clear A70
        by_cases c8 : t302 = true
        · subst c8
          have H1 : (if 0 < (a0.size : Int) then ((linkhouseref1_In.f (wrap64 (bt a0 0)) 48 57).bind fun t303 => (some (!t303))) else (none)) = some r := by rw [if_pos rfl] at H; exact H
          clear H
          have H := H1
          clear H1
          by_cases c9 : 0 < (a0.size : Int)
          · rw [if_pos c9] at H
            have c9b0 : decide (0 < (a0.size : Int)) = true := decide_eq_true c9
            have c9b1 : decide (0 < a0.size) = true := decide_eq_true (by omega)
            clear c9
            replace H := Option.bind_eq_some_iff.mp H
            obtain ⟨t303, A110, H⟩ := H
            replace H : (some (!t303)) = some r := H
            have A11 := Aside0.mk A110
            clear A110
            as_aux_lemma =>
              obtain rfl := Option.some.inj H
              go_wp2_with (first | ((with_reducible refine gate_callee (f := 20) rfl ?_); refine goesL_ (some 17) rfl rfl Try.func20 (by kernel_rfl) rfl #[.int .i64 (a0.size : Int), .int .i64 1, .int .i64 16] rfl (by (try simp only [List.map_toArray, List.map_cons, List.map_nil]); first | done | rfl | (simp only [List.length_drop, List.length_take]; rfl)) ?_; (with_reducible refine (linkhouseref1_In.calls (a0.size : Int) 1 16 true _ A7.out).mono ?_); rintro e w' ⟨rfl, ⟨nd, rfl⟩⟩; refine ⟨_, rfl, ?_⟩; have p10 : 0 ≤ (0 : Int) := (by omega); have q10 : 0 < a0.size := (by have : (0 : Int) < (a0.size : Int) := of_decide_eq_true (by first | (with_reducible assumption) | assumption); omega); have hx10 : ∀ h : 0 < a0.size, ((a0[0]'h).toNat : Int) = bt a0 0 := bt_at a0 0; clear p10; have qi10 : (0 < (a0.size : Int)) = True := eq_true (of_decide_eq_true (by first | (with_reducible assumption) | assumption)); replace q10 := eq_true q10) | (go_at_call 20; (with_reducible refine (linkhouseref1_In.calls (wrap64 (bt a0 0)) 48 57 t303 _ A11.out).mono ?_); rintro e w' ⟨rfl, ⟨nd, rfl⟩⟩))
              go_ret
              exact ⟨by first | rfl | (simp; done) | (simp [*]; done), by repeat (first | exact Drawn0.refl _ | apply Drawn0.step)⟩
          · rw [if_neg c9] at H
            exact absurd H (by simp)
        · replace c8 := Bool.eq_false_iff.mpr c8
          subst c8
          have H1 : (some false) = some r := by rw [if_neg (show ¬ (false = true) by decide)] at H; exact H
          clear H
          have H := H1
          clear H1
          as_aux_lemma =>
            obtain rfl := Option.some.inj H
            go_wp2_with (first | ((with_reducible refine gate_callee (f := 20) rfl ?_); refine goesL_ (some 17) rfl rfl Try.func20 (by kernel_rfl) rfl #[.int .i64 (a0.size : Int), .int .i64 1, .int .i64 16] rfl (by (try simp only [List.map_toArray, List.map_cons, List.map_nil]); first | done | rfl | (simp only [List.length_drop, List.length_take]; rfl)) ?_; (with_reducible refine (linkhouseref1_In.calls (a0.size : Int) 1 16 false _ A7.out).mono ?_); rintro e w' ⟨rfl, ⟨nd, rfl⟩⟩; refine ⟨_, rfl, ?_⟩))
            go_ret
            exact ⟨by first | rfl | (simp; done) | (simp [*]; done), by repeat (first | exact Drawn0.refl _ | apply Drawn0.step)⟩
end Go.Proofs.Ytpmlcmdojmdmhaa.PR
