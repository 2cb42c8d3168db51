-- Written by a program of this session's own for function contracts (after the kit's print): not trusted, Lean checks it.
import Derived.Test.YtpmlcmdojmdmhaaPRx0
import Derived.Test.YtpmlcmdojmdmhaaPRx31
namespace Go.Proofs.Ytpmlcmdojmdmhaa.PR
open Go.RowKit Go.Proofs.YtpmlcmdojmdmhaaW.PrintWords Go.Proofs.YtpmlcmdojmdmhaaW.PrintLast Go.Proofs.YtpmlcmdojmdmhaaW.PrintMore
attribute [local go_sem] max2_int min2_int max_two min_two max_three min_three max_four min_four   -- for this text's walks alone
set_option linter.unusedVariables false
set_option linter.unusedSimpArgs false

/-! ### linkhouseref1_NameByte: function 44 -/
def linkhouseref1_NameByte.f (a0 : Int) : Option (Bool) := (linkhouseref1_In.f (wrap64 (a0)) 97 122).bind fun t298 => (if t298 = true then (some true) else ((linkhouseref1_In.f (wrap64 (a0)) 65 90).bind fun t299 => (if t299 = true then (some true) else ((linkhouseref1_In.f (wrap64 (a0)) 48 57).bind fun t300 => (if t300 = true then (some true) else (if a0 = 46 then (some true) else (if a0 = 95 then (some true) else (some (a0 == 36)))))))))
set_option maxHeartbeats 8000000 in
set_option maxRecDepth 100000 in
theorem linkhouseref1_NameByte.calls (a0 : Int) (r : Bool) (w : World) (h : linkhouseref1_NameByte.f a0 = some r) :
    Calls Try.prog 44 #[.int .u8 a0] w fun e w' => e = .returned (.bool r) ∧ Drawn0 w w' := by
  have H : ((linkhouseref1_In.f (wrap64 (a0)) 97 122).bind fun t298 => (if t298 = true then (some true) else ((linkhouseref1_In.f (wrap64 (a0)) 65 90).bind fun t299 => (if t299 = true then (some true) else ((linkhouseref1_In.f (wrap64 (a0)) 48 57).bind fun t300 => (if t300 = true then (some true) else (if a0 = 46 then (some true) else (if a0 = 95 then (some true) else (some (a0 == 36)))))))))) = some r := h
  clear h
  replace H := Option.bind_eq_some_iff.mp H
  obtain ⟨t298, A20, H⟩ := H
  replace H : (if t298 = true then (some true) else ((linkhouseref1_In.f (wrap64 (a0)) 65 90).bind fun t299 => (if t299 = true then (some true) else ((linkhouseref1_In.f (wrap64 (a0)) 48 57).bind fun t300 => (if t300 = true then (some true) else (if a0 = 46 then (some true) else (if a0 = 95 then (some true) else (some (a0 == 36))))))))) = some r := H
  have A2 := Aside0.mk A20
  clear A20
  by_cases c3 : t298 = true
  · subst c3
    have H1 : (some true) = some r := by rw [if_pos rfl] at H; exact H
    clear H
    have H := H1
    clear H1
    as_aux_lemma =>
      obtain rfl := Option.some.inj H
      go_enter Try.func44, Try.ntmps44
      go_wp2_with (first | ((with_reducible refine gate_callee (f := 20) rfl ?_); refine goesL_ (some 7) rfl rfl Try.func20 (by kernel_rfl) rfl #[.int .i64 (wrap64 (a0)), .int .i64 97, .int .i64 122] rfl (by (try simp only [List.map_toArray, List.map_cons, List.map_nil]); first | done | rfl | (simp only [List.length_drop, List.length_take]; rfl)) ?_; (with_reducible refine (linkhouseref1_In.calls (wrap64 (a0)) 97 122 true _ A2.out).mono ?_); rintro e w' ⟨rfl, ⟨nd, rfl⟩⟩; refine ⟨_, rfl, ?_⟩))
      go_ret
      exact ⟨by first | rfl | (simp; done) | (simp [*]; done), by repeat (first | exact Drawn0.refl _ | apply Drawn0.step)⟩
  · replace c3 := Bool.eq_false_iff.mpr c3
    subst c3
    have H1 : ((linkhouseref1_In.f (wrap64 (a0)) 65 90).bind fun t299 => (if t299 = true then (some true) else ((linkhouseref1_In.f (wrap64 (a0)) 48 57).bind fun t300 => (if t300 = true then (some true) else (if a0 = 46 then (some true) else (if a0 = 95 then (some true) else (some (a0 == 36)))))))) = some r := by rw [if_neg (show ¬ (false = true) by decide)] at H; exact H
    clear H
    have H := H1
    clear H1
    replace H := Option.bind_eq_some_iff.mp H
    obtain ⟨t299, A40, H⟩ := H
    replace H : (if t299 = true then (some true) else ((linkhouseref1_In.f (wrap64 (a0)) 48 57).bind fun t300 => (if t300 = true then (some true) else (if a0 = 46 then (some true) else (if a0 = 95 then (some true) else (some (a0 == 36))))))) = some r := H
    have A4 := Aside0.mk A40
    clear A40
    by_cases c5 : t299 = true
    · subst c5
      have H1 : (some true) = some r := by rw [if_pos rfl] at H; exact H
      clear H
      have H := H1
      clear H1
      as_aux_lemma =>
        obtain rfl := Option.some.inj H
        go_enter Try.func44, Try.ntmps44
        go_wp2_with (first | ((with_reducible refine gate_callee (f := 20) rfl ?_); refine goesL_ (some 7) rfl rfl Try.func20 (by kernel_rfl) rfl #[.int .i64 (wrap64 (a0)), .int .i64 97, .int .i64 122] rfl (by (try simp only [List.map_toArray, List.map_cons, List.map_nil]); first | done | rfl | (simp only [List.length_drop, List.length_take]; rfl)) ?_; (with_reducible refine (linkhouseref1_In.calls (wrap64 (a0)) 97 122 false _ A2.out).mono ?_); rintro e w' ⟨rfl, ⟨nd, rfl⟩⟩; refine ⟨_, rfl, ?_⟩) | (go_at_call 20; (with_reducible refine (linkhouseref1_In.calls (wrap64 (a0)) 65 90 true _ A4.out).mono ?_); rintro e w' ⟨rfl, ⟨nd, rfl⟩⟩))
        go_ret
        exact ⟨by first | rfl | (simp; done) | (simp [*]; done), by repeat (first | exact Drawn0.refl _ | apply Drawn0.step)⟩
    · replace c5 := Bool.eq_false_iff.mpr c5
      subst c5
      have H1 : ((linkhouseref1_In.f (wrap64 (a0)) 48 57).bind fun t300 => (if t300 = true then (some true) else (if a0 = 46 then (some true) else (if a0 = 95 then (some true) else (some (a0 == 36)))))) = some r := by rw [if_neg (show ¬ (false = true) by decide)] at H; exact H
      clear H
      have H := H1
      clear H1
      replace H := Option.bind_eq_some_iff.mp H
      obtain ⟨t300, A60, H⟩ := H
      replace H : (if t300 = true then (some true) else (if a0 = 46 then (some true) else (if a0 = 95 then (some true) else (some (a0 == 36))))) = some r := H
      have A6 := Aside0.mk A60
      clear A60
      by_cases c7 : t300 = true
      · subst c7
        have H1 : (some true) = some r := by rw [if_pos rfl] at H; exact H
        clear H
        have H := H1
        clear H1
        as_aux_lemma =>
          obtain rfl := Option.some.inj H
          go_enter Try.func44, Try.ntmps44
          go_wp2_with (first | ((with_reducible refine gate_callee (f := 20) rfl ?_); refine goesL_ (some 7) rfl rfl Try.func20 (by kernel_rfl) rfl #[.int .i64 (wrap64 (a0)), .int .i64 97, .int .i64 122] rfl (by (try simp only [List.map_toArray, List.map_cons, List.map_nil]); first | done | rfl | (simp only [List.length_drop, List.length_take]; rfl)) ?_; (with_reducible refine (linkhouseref1_In.calls (wrap64 (a0)) 97 122 false _ A2.out).mono ?_); rintro e w' ⟨rfl, ⟨nd, rfl⟩⟩; refine ⟨_, rfl, ?_⟩) | (go_at_call 20; (with_reducible refine (linkhouseref1_In.calls (wrap64 (a0)) 65 90 false _ A4.out).mono ?_); rintro e w' ⟨rfl, ⟨nd, rfl⟩⟩) | (go_at_call 20; (with_reducible refine (linkhouseref1_In.calls (wrap64 (a0)) 48 57 true _ A6.out).mono ?_); rintro e w' ⟨rfl, ⟨nd, rfl⟩⟩))
          go_ret
          exact ⟨by first | rfl | (simp; done) | (simp [*]; done), by repeat (first | exact Drawn0.refl _ | apply Drawn0.step)⟩
      · replace c7 := Bool.eq_false_iff.mpr c7
        subst c7
        have H1 : (if a0 = 46 then (some true) else (if a0 = 95 then (some true) else (some (a0 == 36)))) = some r := by rw [if_neg (show ¬ (false = true) by decide)] at H; exact H
        clear H
        have H := H1
        clear H1
        by_cases c8 : a0 = 46
        · rw [if_pos c8] at H
          have c8b0 : (a0 == 46) = true := beq_iff_eq.mpr c8
          have c8b1 : (a0 != 46) = false := bne_eq_false_iff_eq.mpr c8
          clear c8
          as_aux_lemma =>
            obtain rfl := Option.some.inj H
            go_enter Try.func44, Try.ntmps44
            go_wp2_with (first | ((with_reducible refine gate_callee (f := 20) rfl ?_); refine goesL_ (some 7) rfl rfl Try.func20 (by kernel_rfl) rfl #[.int .i64 (wrap64 (a0)), .int .i64 97, .int .i64 122] rfl (by (try simp only [List.map_toArray, List.map_cons, List.map_nil]); first | done | rfl | (simp only [List.length_drop, List.length_take]; rfl)) ?_; (with_reducible refine (linkhouseref1_In.calls (wrap64 (a0)) 97 122 false _ A2.out).mono ?_); rintro e w' ⟨rfl, ⟨nd, rfl⟩⟩; refine ⟨_, rfl, ?_⟩) | (go_at_call 20; (with_reducible refine (linkhouseref1_In.calls (wrap64 (a0)) 65 90 false _ A4.out).mono ?_); rintro e w' ⟨rfl, ⟨nd, rfl⟩⟩) | (go_at_call 20; (with_reducible refine (linkhouseref1_In.calls (wrap64 (a0)) 48 57 false _ A6.out).mono ?_); rintro e w' ⟨rfl, ⟨nd, rfl⟩⟩))
            go_ret
            exact ⟨by first | rfl | (simp; done) | (simp [*]; done), by repeat (first | exact Drawn0.refl _ | apply Drawn0.step)⟩
        · rw [if_neg c8] at H
          have c8b0 : (a0 == 46) = false := beq_eq_false_iff_ne.mpr c8
          have c8b1 : (a0 != 46) = true := bne_iff_ne.mpr c8
          by_cases c9 : a0 = 95
          · rw [if_pos c9] at H
            have c9b0 : (a0 == 95) = true := beq_iff_eq.mpr c9
            have c9b1 : (a0 != 95) = false := bne_eq_false_iff_eq.mpr c9
            clear c9
            as_aux_lemma =>
              obtain rfl := Option.some.inj H
              go_enter Try.func44, Try.ntmps44
              go_wp2_with (first | ((with_reducible refine gate_callee (f := 20) rfl ?_); refine goesL_ (some 7) rfl rfl Try.func20 (by kernel_rfl) rfl #[.int .i64 (wrap64 (a0)), .int .i64 97, .int .i64 122] rfl (by (try simp only [List.map_toArray, List.map_cons, List.map_nil]); first | done | rfl | (simp only [List.length_drop, List.length_take]; rfl)) ?_; (with_reducible refine (linkhouseref1_In.calls (wrap64 (a0)) 97 122 false _ A2.out).mono ?_); rintro e w' ⟨rfl, ⟨nd, rfl⟩⟩; refine ⟨_, rfl, ?_⟩) | (go_at_call 20; (with_reducible refine (linkhouseref1_In.calls (wrap64 (a0)) 65 90 false _ A4.out).mono ?_); rintro e w' ⟨rfl, ⟨nd, rfl⟩⟩) | (go_at_call 20; (with_reducible refine (linkhouseref1_In.calls (wrap64 (a0)) 48 57 false _ A6.out).mono ?_); rintro e w' ⟨rfl, ⟨nd, rfl⟩⟩))
              go_ret
              exact ⟨by first | rfl | (simp; done) | (simp [*]; done), by repeat (first | exact Drawn0.refl _ | apply Drawn0.step)⟩
          · rw [if_neg c9] at H
            have c9b0 : (a0 == 95) = false := beq_eq_false_iff_ne.mpr c9
            have c9b1 : (a0 != 95) = true := bne_iff_ne.mpr c9
            as_aux_lemma =>
              obtain rfl := Option.some.inj H
              go_enter Try.func44, Try.ntmps44
              go_wp2_with (first | ((with_reducible refine gate_callee (f := 20) rfl ?_); refine goesL_ (some 7) rfl rfl Try.func20 (by kernel_rfl) rfl #[.int .i64 (wrap64 (a0)), .int .i64 97, .int .i64 122] rfl (by (try simp only [List.map_toArray, List.map_cons, List.map_nil]); first | done | rfl | (simp only [List.length_drop, List.length_take]; rfl)) ?_; (with_reducible refine (linkhouseref1_In.calls (wrap64 (a0)) 97 122 false _ A2.out).mono ?_); rintro e w' ⟨rfl, ⟨nd, rfl⟩⟩; refine ⟨_, rfl, ?_⟩) | (go_at_call 20; (with_reducible refine (linkhouseref1_In.calls (wrap64 (a0)) 65 90 false _ A4.out).mono ?_); rintro e w' ⟨rfl, ⟨nd, rfl⟩⟩) | (go_at_call 20; (with_reducible refine (linkhouseref1_In.calls (wrap64 (a0)) 48 57 false _ A6.out).mono ?_); rintro e w' ⟨rfl, ⟨nd, rfl⟩⟩))
              go_ret
              exact ⟨by first | rfl | (simp; done) | (simp [*]; done), by repeat (first | exact Drawn0.refl _ | apply Drawn0.step)⟩

end Go.Proofs.Ytpmlcmdojmdmhaa.PR
