-- Written by a program of this session's own for function contracts (after the kit's print): not trusted, Lean checks it.
import Derived.Test.YteljmmdbgnjflaaPFx0
import Derived.Test.YteljmmdbgnjflaaPFx2
import Derived.Test.YteljmmdbgnjflaaPFx14
import Derived.Test.YteljmmdbgnjflaaPFx15
import Derived.Test.YteljmmdbgnjflaaPFx16
import Derived.Test.YteljmmdbgnjflaaPFx17
namespace Go.Proofs.Yteljmmdbgnjflaa.PF
open Go.RowKit Go.Proofs.YteljmmdbgnjflaaW.PrintWords Go.Proofs.YteljmmdbgnjflaaW.PrintLast Go.Proofs.YteljmmdbgnjflaaW.PrintMore
attribute [local go_sem] max2_int min2_int max_two min_two max_three min_three max_four min_four   -- for this text's walks alone
set_option linter.unusedVariables false
set_option linter.unusedSimpArgs false

/-! ### linkhouselaw2_FrameChecksumMatchesSpec: function 3 -/
mutual
def linkhouselaw2_FrameChecksumMatchesSpec.j0 : Nat → List Int → Int → Int → Bool → Option (Bool)
 | 0, _, _, _, _ => none
 | k + 1, x0, x1, x2, x16 => if x16 = true then (some false) else ((linkhouseref1_In.f x1 0 (wrap64 ((x0.length : Int) - 1))).bind fun t183 => (if t183 = true then (if 0 ≤ x1 then (if x1 < (x0.length : Int) then (linkhouselaw2_FrameChecksumMatchesSpec.j1 k x0 x1 x2 ((rd x0 x1) == x2)) else (none)) else (none)) else (linkhouselaw2_FrameChecksumMatchesSpec.j1 k x0 x1 x2 true)))
def linkhouselaw2_FrameChecksumMatchesSpec.j1 : Nat → List Int → Int → Int → Bool → Option (Bool)
 | 0, _, _, _, _ => none
 | k + 1, x0, x1, x2, x30 => if x30 = true then (some true) else ((linkhouseref1_Copy.f x0).bind fun t185 => (if 0 ≤ x1 then (if x1 < (t185.length : Int) then ((frame_Sum.f k (t185.set (x1 : Int).toNat x2)).bind fun t189 => ((frame_Sum.f k x0).bind fun t190 => (some (t189 != t190)))) else (none)) else (none)))
end
def linkhouselaw2_FrameChecksumMatchesSpec.f (k : Nat) (l0 : List Int) (a1 : Int) (a2 : Int) : Option (Bool) := (linkhouselaw2_frameExample.f k).bind fun t180 => (if t180 = true then ((frame_Sum.f k l0).bind fun t181 => ((linkhouseref2_Checksum.f k l0).bind fun t182 => (linkhouselaw2_FrameChecksumMatchesSpec.j0 k l0 a1 a2 (t181 != t182)))) else (linkhouselaw2_FrameChecksumMatchesSpec.j0 k l0 a1 a2 true))
theorem linkhouselaw2_FrameChecksumMatchesSpec.mono_l : ∀ k, (∀ y0 y1 y2 y3, LeO (linkhouselaw2_FrameChecksumMatchesSpec.j0 k y0 y1 y2 y3) (linkhouselaw2_FrameChecksumMatchesSpec.j0 (k + 1) y0 y1 y2 y3)) ∧ (∀ y0 y1 y2 y3, LeO (linkhouselaw2_FrameChecksumMatchesSpec.j1 k y0 y1 y2 y3) (linkhouselaw2_FrameChecksumMatchesSpec.j1 (k + 1) y0 y1 y2 y3))
 | 0 => ⟨fun _ _ _ _ r h => by simp [linkhouselaw2_FrameChecksumMatchesSpec.j0] at h, fun _ _ _ _ r h => by simp [linkhouselaw2_FrameChecksumMatchesSpec.j1] at h⟩
 | k + 1 => by
  obtain ⟨ih0, ih1⟩ := linkhouselaw2_FrameChecksumMatchesSpec.mono_l k
  refine ⟨?_, ?_⟩
  ·intro y0 y1 y2 y3
   unfold linkhouselaw2_FrameChecksumMatchesSpec.j0
   repeat' first
   | (with_reducible exact ih0 _ _ _ _)
   | (with_reducible exact ih1 _ _ _ _)
   | (with_reducible exact frame_Sum.mono _ _)
   | (with_reducible exact linkhouselaw2_frameExample.mono _)
   | (with_reducible exact linkhouseref2_Checksum.mono _ _)
   | (with_reducible exact LeO.refl _)
   | (with_reducible exact LeO.none _)
   | (with_reducible refine LeO.ite ?_ ?_)
   | (with_reducible refine LeO.bind ?_ (fun _ => ?_))
   | exact ih0 _ _ _ _
   | exact ih1 _ _ _ _
   | exact frame_Sum.mono _ _
   | exact linkhouselaw2_frameExample.mono _
   | exact linkhouseref2_Checksum.mono _ _
   | exact LeO.none _
   | refine LeO.ite ?_ ?_
   | refine LeO.bind ?_ (fun _ => ?_)
  ·intro y0 y1 y2 y3
   unfold linkhouselaw2_FrameChecksumMatchesSpec.j1
   repeat' first
   | (with_reducible exact ih0 _ _ _ _)
   | (with_reducible exact ih1 _ _ _ _)
   | (with_reducible exact frame_Sum.mono _ _)
   | (with_reducible exact linkhouselaw2_frameExample.mono _)
   | (with_reducible exact linkhouseref2_Checksum.mono _ _)
   | (with_reducible exact LeO.refl _)
   | (with_reducible exact LeO.none _)
   | (with_reducible refine LeO.ite ?_ ?_)
   | (with_reducible refine LeO.bind ?_ (fun _ => ?_))
   | exact ih0 _ _ _ _
   | exact ih1 _ _ _ _
   | exact frame_Sum.mono _ _
   | exact linkhouselaw2_frameExample.mono _
   | exact linkhouseref2_Checksum.mono _ _
   | exact LeO.none _
   | refine LeO.ite ?_ ?_
   | refine LeO.bind ?_ (fun _ => ?_)
theorem linkhouselaw2_FrameChecksumMatchesSpec.mono : ∀ a0 a1 a2 k, LeO (linkhouselaw2_FrameChecksumMatchesSpec.f k a0 a1 a2) (linkhouselaw2_FrameChecksumMatchesSpec.f (k + 1) a0 a1 a2) := by
 intro a0 a1 a2 k
 obtain ⟨ih0, ih1⟩ := linkhouselaw2_FrameChecksumMatchesSpec.mono_l k
 unfold linkhouselaw2_FrameChecksumMatchesSpec.f
 repeat' first
   | (with_reducible exact ih0 _ _ _ _)
   | (with_reducible exact ih1 _ _ _ _)
   | (with_reducible exact frame_Sum.mono _ _)
   | (with_reducible exact linkhouselaw2_frameExample.mono _)
   | (with_reducible exact linkhouseref2_Checksum.mono _ _)
   | (with_reducible exact LeO.refl _)
   | (with_reducible exact LeO.none _)
   | (with_reducible refine LeO.ite ?_ ?_)
   | (with_reducible refine LeO.bind ?_ (fun _ => ?_))
   | exact ih0 _ _ _ _
   | exact ih1 _ _ _ _
   | exact frame_Sum.mono _ _
   | exact linkhouselaw2_frameExample.mono _
   | exact linkhouseref2_Checksum.mono _ _
   | exact LeO.none _
   | refine LeO.ite ?_ ?_
   | refine LeO.bind ?_ (fun _ => ?_)
set_option maxHeartbeats 8000000 in
set_option maxRecDepth 100000 in
theorem linkhouselaw2_FrameChecksumMatchesSpec.calls (k : Nat) (A0 : Option Addr) (c0 : Nat) (l0 : List Int) (a1 : Int) (a2 : Int) (r : Bool) (w : World) (hr0 : Kd.C (Kd.int .u8) w A0 l0.length l0) (hc0 : l0.length ≤ c0) (h : linkhouselaw2_FrameChecksumMatchesSpec.f k l0 a1 a2 = some r) :
  Calls Try.prog 3 #[.slice A0 l0.length c0, .int .i64 a1, .int .u8 a2] w fun e w' => e = .returned (.bool r) ∧ Below w.heap.size w w' := by
 have HR0 := Aside0.mk hr0
 have HC0 := Aside0.mk hc0
 clear hr0 hc0
 have HB := Aside0.mk (Below.refl w.heap.size w)
 have H : ((linkhouselaw2_frameExample.f k).bind fun t180 => (if t180 = true then ((frame_Sum.f k l0).bind fun t181 => ((linkhouseref2_Checksum.f k l0).bind fun t182 => (linkhouselaw2_FrameChecksumMatchesSpec.j0 k l0 a1 a2 (t181 != t182)))) else (linkhouselaw2_FrameChecksumMatchesSpec.j0 k l0 a1 a2 true))) = some r := h
 clear h
 have HC4 := Aside0.mk H
 clear H
 go_enter Try.func3, Try.ntmps3
 go_upto_region 1 with (fail)
 go_cut [16] (fun v16 wc => ∃ (kq : Nat) (x16_3 : Bool), v16 = .bool x16_3 ∧ Aside0 (linkhouselaw2_FrameChecksumMatchesSpec.j0 kq l0 a1 a2 x16_3 = some r) ∧ Aside0 (kq ≤ k) ∧ Aside0 (Below w.heap.size w wc))
 case first =>
  have H := HC4.out
  clear HC4
  replace H := Option.bind_eq_some_iff.mp H
  obtain ⟨t180, A50, H⟩ := H
  replace H : (if t180 = true then ((frame_Sum.f k l0).bind fun t181 => ((linkhouseref2_Checksum.f k l0).bind fun t182 => (linkhouselaw2_FrameChecksumMatchesSpec.j0 k l0 a1 a2 (t181 != t182)))) else (linkhouselaw2_FrameChecksumMatchesSpec.j0 k l0 a1 a2 true)) = some r := H
  have A5 := Aside0.mk A50
  clear A50
  by_cases c6 : t180 = true
  ·subst c6
   have H1 : ((frame_Sum.f k l0).bind fun t181 => ((linkhouseref2_Checksum.f k l0).bind fun t182 => (linkhouselaw2_FrameChecksumMatchesSpec.j0 k l0 a1 a2 (t181 != t182)))) = some r := by rw [if_pos rfl] at H; exact H
   clear H
   have H := H1
   clear H1
   replace H := Option.bind_eq_some_iff.mp H
   obtain ⟨t181, A70, H⟩ := H
   replace H : ((linkhouseref2_Checksum.f k l0).bind fun t182 => (linkhouselaw2_FrameChecksumMatchesSpec.j0 k l0 a1 a2 (t181 != t182))) = some r := H
   have A7 := Aside0.mk A70
   clear A70
   replace H := Option.bind_eq_some_iff.mp H
   obtain ⟨t182, A80, H⟩ := H
   replace H : (linkhouselaw2_FrameChecksumMatchesSpec.j0 k l0 a1 a2 (t181 != t182)) = some r := H
   have A8 := Aside0.mk A80
   clear A80
   have H' := Aside0.mk H
   clear H
   go_wp2_with (first | ((with_reducible refine gate_callee (f := 8) rfl ?_); refine goesL_ (some 8) rfl rfl Try.func8 (by kernel_rfl) rfl #[] rfl (by (try simp only [List.map_toArray, List.map_cons, List.map_nil]); first | done | rfl | (simp only [List.length_drop, List.length_take]; rfl)) ?_; (with_reducible refine (linkhouselaw2_frameExample.calls k  true _ A5.out).mono ?_); rintro e w9 ⟨rfl, hb⟩; refine ⟨_, rfl, ?_⟩; have n0_ := Aside0.mk (below_step (by repeat (first | (with_reducible first | exact HB.out | apply below_alloc | apply pw_below_drewN | apply below_drew1) | exact HB.out)) hb); clear HB; have HB := n0_; clear n0_; (try clear hb); (try clear hb2); (try clear hk); (try clear hi)) | (go_at_call 9; (with_reducible refine (frame_Sum.calls k _ _ l0 t181 _ ?side1 ?side2 A7.out).mono ?_); (case side1 => repeat (first | exact (Kd.C_below HR0.out HB.out) | (with_reducible refine Kd.C_alloc ?_ _) | (with_reducible refine Kd.C_drewN ?_ _) | (with_reducible refine Kd.C_drew ?_))); (case side2 => exact HC0.out); rintro e w' ⟨rfl, ⟨nd, rfl⟩⟩) | (go_at_call 10; (with_reducible refine (linkhouseref2_Checksum.calls k _ _ l0 t182 _ ?side1 ?side2 A8.out).mono ?_); (case side1 => repeat (first | exact (Kd.C_below HR0.out (by repeat (first | (with_reducible first | exact HB.out | apply below_alloc | apply pw_below_drewN | apply below_drew1) | exact HB.out))) | (with_reducible refine Kd.C_alloc ?_ _) | (with_reducible refine Kd.C_drewN ?_ _) | (with_reducible refine Kd.C_drew ?_))); (case side2 => exact HC0.out); rintro e w' ⟨rfl, ⟨nd, rfl⟩⟩))
   go_meet
   case rel => exact ⟨_, ((t181 != t182)), (by first | rfl | (simp; done) | (simp [*]; done)), H', ⟨by first | omega | exact Nat.le_refl _⟩, ⟨by repeat (first | (with_reducible first | exact HB.out | apply below_alloc | apply pw_below_drewN | apply below_drew1) | exact HB.out)⟩⟩
  ·replace c6 := Bool.eq_false_iff.mpr c6
   subst c6
   have H1 : (linkhouselaw2_FrameChecksumMatchesSpec.j0 k l0 a1 a2 true) = some r := by rw [if_neg (show ¬ (false = true) by decide)] at H; exact H
   clear H
   have H := H1
   clear H1
   have H' := Aside0.mk H
   clear H
   go_wp2_with (first | ((with_reducible refine gate_callee (f := 8) rfl ?_); refine goesL_ (some 8) rfl rfl Try.func8 (by kernel_rfl) rfl #[] rfl (by (try simp only [List.map_toArray, List.map_cons, List.map_nil]); first | done | rfl | (simp only [List.length_drop, List.length_take]; rfl)) ?_; (with_reducible refine (linkhouselaw2_frameExample.calls k  false _ A5.out).mono ?_); rintro e w10 ⟨rfl, hb⟩; refine ⟨_, rfl, ?_⟩; have n0_ := Aside0.mk (below_step (by repeat (first | (with_reducible first | exact HB.out | apply below_alloc | apply pw_below_drewN | apply below_drew1) | exact HB.out)) hb); clear HB; have HB := n0_; clear n0_; (try clear hb); (try clear hb2); (try clear hk); (try clear hi)))
   go_meet
   case rel => exact ⟨_, (true), (by first | rfl | (simp; done) | (simp [*]; done)), H', ⟨by first | omega | exact Nat.le_refl _⟩, ⟨by repeat (first | (with_reducible first | exact HB.out | apply below_alloc | apply pw_below_drewN | apply below_drew1) | exact HB.out)⟩⟩
 case rest =>
  clear HC4
  try clear p2
  try clear c3
  try clear c6
  try clear c8
  obtain ⟨kq, x16_3, rfl, HA, HJ3, HB⟩ := hcut
  cases kq with
  | zero => exact absurd HA.out (by simp [linkhouselaw2_FrameChecksumMatchesSpec.j0])
  | succ kj3 =>
   have H := HA.out
   clear HA
   simp only [linkhouselaw2_FrameChecksumMatchesSpec.j0] at H
   by_cases c11 : x16_3 = true
   ·subst c11
    have H1 : (some false) = some r := by rw [if_pos rfl] at H; exact H
    clear H
    have H := H1
    clear H1
    obtain rfl := Option.some.inj H
    go_wp2
    go_ret
    exact ⟨by first | rfl | (simp [errW_none, errW_some] <;> rfl) | (simp [*, errW_none, errW_some] <;> rfl), by repeat (first | (with_reducible first | exact HB.out | apply below_alloc | apply pw_below_drewN | apply below_drew1) | exact HB.out)⟩
   ·replace c11 := Bool.eq_false_iff.mpr c11
    subst c11
    have H1 : ((linkhouseref1_In.f a1 0 (wrap64 ((l0.length : Int) - 1))).bind fun t183 => (if t183 = true then (if 0 ≤ a1 then (if a1 < (l0.length : Int) then (linkhouselaw2_FrameChecksumMatchesSpec.j1 kj3 l0 a1 a2 ((rd l0 a1) == a2)) else (none)) else (none)) else (linkhouselaw2_FrameChecksumMatchesSpec.j1 kj3 l0 a1 a2 true))) = some r := by rw [if_neg (show ¬ (false = true) by decide)] at H; exact H
    clear H
    have H := H1
    clear H1
    have HC12 := Aside0.mk H
    clear H
    go_upto_region 3 with (fail)
    go_cut [30] (fun v30 wc => ∃ (kq : Nat) (x30_11 : Bool), v30 = .bool x30_11 ∧ Aside0 (linkhouselaw2_FrameChecksumMatchesSpec.j1 kq l0 a1 a2 x30_11 = some r) ∧ Aside0 (kq ≤ kj3) ∧ Aside0 (Below w.heap.size w wc))
    case first =>
     have H := HC12.out
     clear HC12
     replace H := Option.bind_eq_some_iff.mp H
     obtain ⟨t183, A130, H⟩ := H
     replace H : (if t183 = true then (if 0 ≤ a1 then (if a1 < (l0.length : Int) then (linkhouselaw2_FrameChecksumMatchesSpec.j1 kj3 l0 a1 a2 ((rd l0 a1) == a2)) else (none)) else (none)) else (linkhouselaw2_FrameChecksumMatchesSpec.j1 kj3 l0 a1 a2 true)) = some r := H
     have A13 := Aside0.mk A130
     clear A130
     by_cases c14 : t183 = true
     ·subst c14
      have H1 : (if 0 ≤ a1 then (if a1 < (l0.length : Int) then (linkhouselaw2_FrameChecksumMatchesSpec.j1 kj3 l0 a1 a2 ((rd l0 a1) == a2)) else (none)) else (none)) = some r := by rw [if_pos rfl] at H; exact H
      clear H
      have H := H1
      clear H1
      by_cases c15 : 0 ≤ a1
      ·rw [if_pos c15] at H
       have c15b0 : decide (0 ≤ a1) = true := decide_eq_true c15
       clear c15
       (first | rw [c15b0] | (simp only [i64_w, i32_w]; rw [c15b0]) | skip)
       by_cases c16 : a1 < (l0.length : Int)
       ·rw [if_pos c16] at H
        have c16b0 : decide (a1 < (l0.length : Int)) = true := decide_eq_true c16
        clear c16
        have H' := Aside0.mk H
        clear H
        go_wp2_with (first | ((with_reducible refine gate_callee (f := 11) rfl ?_); refine goesL_ (some 21) rfl rfl Try.func11 (by kernel_rfl) rfl #[.int .i64 a1, .int .i64 0, .int .i64 (wrap64 ((l0.length : Int) - 1))] rfl (by (try simp only [List.map_toArray, List.map_cons, List.map_nil]); first | done | rfl | (simp only [List.length_drop, List.length_take]; rfl)) ?_; (with_reducible refine (linkhouseref1_In.calls a1 0 (wrap64 ((l0.length : Int) - 1)) true _ A13.out).mono ?_); rintro e w' ⟨rfl, ⟨nd, rfl⟩⟩; refine ⟨_, rfl, ?_⟩; have p184 : 0 ≤ (a1 : Int) := of_decide_eq_true (by first | (with_reducible assumption) | assumption); have q184 : a1 < (l0.length : Int) := of_decide_eq_true (by first | (with_reducible assumption) | assumption); obtain ⟨ad184, e184, hx184_0⟩ := Kd.at_int HR0.out a1 p184 q184; cases e184; replace hx184_0 := (HB.out.cell (World.block_lt_of_cell? w _ hx184_0)).trans hx184_0; replace p184 := eq_true p184; replace q184 := eq_true q184))
        go_meet
        case rel => exact ⟨_, (((rd l0 a1) == a2)), (by first | rfl | (simp; done) | (simp [*]; done)), H', ⟨by have := HJ3.out; first | omega | exact Nat.le_refl _⟩, ⟨by repeat (first | (with_reducible first | exact HB.out | apply below_alloc | apply pw_below_drewN | apply below_drew1) | exact HB.out)⟩⟩
       ·rw [if_neg c16] at H
        exact absurd H (by simp)
      ·rw [if_neg c15] at H
       exact absurd H (by simp)
     ·replace c14 := Bool.eq_false_iff.mpr c14
      subst c14
      have H1 : (linkhouselaw2_FrameChecksumMatchesSpec.j1 kj3 l0 a1 a2 true) = some r := by rw [if_neg (show ¬ (false = true) by decide)] at H; exact H
      clear H
      have H := H1
      clear H1
      have H' := Aside0.mk H
      clear H
      go_wp2_with (first | ((with_reducible refine gate_callee (f := 11) rfl ?_); refine goesL_ (some 21) rfl rfl Try.func11 (by kernel_rfl) rfl #[.int .i64 a1, .int .i64 0, .int .i64 (wrap64 ((l0.length : Int) - 1))] rfl (by (try simp only [List.map_toArray, List.map_cons, List.map_nil]); first | done | rfl | (simp only [List.length_drop, List.length_take]; rfl)) ?_; (with_reducible refine (linkhouseref1_In.calls a1 0 (wrap64 ((l0.length : Int) - 1)) false _ A13.out).mono ?_); rintro e w' ⟨rfl, ⟨nd, rfl⟩⟩; refine ⟨_, rfl, ?_⟩))
      go_meet
      case rel => exact ⟨_, (true), (by first | rfl | (simp; done) | (simp [*]; done)), H', ⟨by have := HJ3.out; first | omega | exact Nat.le_refl _⟩, ⟨by repeat (first | (with_reducible first | exact HB.out | apply below_alloc | apply pw_below_drewN | apply below_drew1) | exact HB.out)⟩⟩
    case rest =>
     clear HC12
     try clear c1
     try clear p1
     try clear q1
     try clear hx1
     try clear p2
     try clear c3
     try clear c6
     try clear p6
     try clear c8
     try clear c11
     try clear c14
     try clear c15
     try clear c15b0
     try clear c16
     try clear c16b0
     try clear hx184_0
     try clear p184
     try clear p2
     try clear q184
     obtain ⟨kq, x30_11, rfl, HA, HJ11, HB⟩ := hcut
     cases kq with
     | zero => exact absurd HA.out (by simp [linkhouselaw2_FrameChecksumMatchesSpec.j1])
     | succ kj11 =>
      have H := HA.out
      clear HA
      simp only [linkhouselaw2_FrameChecksumMatchesSpec.j1] at H
      by_cases c17 : x30_11 = true
      ·subst c17
       have H1 : (some true) = some r := by rw [if_pos rfl] at H; exact H
       clear H
       have H := H1
       clear H1
       obtain rfl := Option.some.inj H
       go_wp2
       go_ret
       exact ⟨by first | rfl | (simp [errW_none, errW_some] <;> rfl) | (simp [*, errW_none, errW_some] <;> rfl), by repeat (first | (with_reducible first | exact HB.out | apply below_alloc | apply pw_below_drewN | apply below_drew1) | exact HB.out)⟩
      ·replace c17 := Bool.eq_false_iff.mpr c17
       subst c17
       have H1 : ((linkhouseref1_Copy.f l0).bind fun t185 => (if 0 ≤ a1 then (if a1 < (t185.length : Int) then ((frame_Sum.f kj11 (t185.set (a1 : Int).toNat a2)).bind fun t189 => ((frame_Sum.f kj11 l0).bind fun t190 => (some (t189 != t190)))) else (none)) else (none))) = some r := by rw [if_neg (show ¬ (false = true) by decide)] at H; exact H
       clear H
       have H := H1
       clear H1
       replace H := Option.bind_eq_some_iff.mp H
       obtain ⟨t185, A180, H⟩ := H
       replace H : (if 0 ≤ a1 then (if a1 < (t185.length : Int) then ((frame_Sum.f kj11 (t185.set (a1 : Int).toNat a2)).bind fun t189 => ((frame_Sum.f kj11 l0).bind fun t190 => (some (t189 != t190)))) else (none)) else (none)) = some r := H
       have A18 := Aside0.mk A180
       clear A180
       by_cases c19 : 0 ≤ a1
       ·rw [if_pos c19] at H
        have c19b0 : decide (0 ≤ a1) = true := decide_eq_true c19
        clear c19
        by_cases c20 : a1 < (t185.length : Int)
        ·rw [if_pos c20] at H
         have c20b0 : decide (a1 < (t185.length : Int)) = true := decide_eq_true c20
         clear c20
         obtain ⟨y188, hy188⟩ : ∃ y_ : List Int, y_ = (t185.set (a1 : Int).toNat a2) := ⟨_, rfl⟩
         replace H : ((frame_Sum.f kj11 y188).bind fun t189 => ((frame_Sum.f kj11 l0).bind fun t190 => (some (t189 != t190)))) = some r := by first | (rw [hy188]; with_reducible exact H) | (have H2_ := (Option.bind_some _ _).symm.trans H; rw [hy188]; with_reducible exact H2_) | (have H2_ := (Option.bind_some _ _).symm.trans H; with_reducible exact H2_) | with_reducible exact H | (rw [hy188]; exact H) | exact H
         have Ny188 := Aside0.mk hy188
         clear hy188
         replace H := Option.bind_eq_some_iff.mp H
         obtain ⟨t189, A220, H⟩ := H
         replace H : ((frame_Sum.f kj11 l0).bind fun t190 => (some (t189 != t190))) = some r := H
         have A22 := Aside0.mk A220
         clear A220
         replace H := Option.bind_eq_some_iff.mp H
         obtain ⟨t190, A230, H⟩ := H
         replace H : (some (t189 != t190)) = some r := H
         have A23 := Aside0.mk A230
         clear A230
         obtain rfl := Option.some.inj H
         go_wp2_with (first | ((with_reducible refine gate_callee (f := 12) rfl ?_); refine goesL_ (some 32) rfl rfl Try.func12 (by kernel_rfl) rfl #[.slice A0 l0.length c0] rfl (by (try simp only [List.map_toArray, List.map_cons, List.map_nil]); first | done | rfl | (simp only [List.length_drop, List.length_take]; rfl)) ?_; (with_reducible refine (linkhouseref1_Copy.calls _ _ l0 t185 _ ?side1 ?side2 A18.out).mono ?_); (case side1 => repeat (first | exact (Kd.C_below HR0.out HB.out) | (with_reducible refine Kd.C_alloc ?_ _) | (with_reducible refine Kd.C_drewN ?_ _) | (with_reducible refine Kd.C_drew ?_))); (case side2 => exact HC0.out); rintro e w24 ⟨v186, rfl, ho0, hb⟩; refine ⟨_, rfl, ?_⟩; have n0_ := Aside0.mk (Kd.R_lower ho0 (below_size (by repeat (first | (with_reducible first | exact HB.out | apply below_alloc | apply pw_below_drewN | apply below_drew1) | exact HB.out)))); have n1_ := Aside0.mk (below_step (by repeat (first | (with_reducible first | exact HB.out | apply below_alloc | apply pw_below_drewN | apply below_drew1) | exact HB.out)) hb); clear HB; have HO187 := n0_; have HB := n1_; clear n0_ n1_; (try clear hb); (try clear hb2); (try clear hk); (try clear hi); (try clear ho0); have p21 : 0 ≤ (a1 : Int) := of_decide_eq_true (by first | (with_reducible assumption) | assumption); have q21 : (a1 : Int) < ((t185.length : Int) : Int) := of_decide_eq_true (by first | (with_reducible assumption) | assumption); obtain ⟨go21, co21, eo21, gb21, gl21, cl21, HG21⟩ := Kd.R_form HO187.out (by omega); (first | cases eo21 | (injection eo21 with ea_ en_ ec_; (first | subst ea_ | (injection ea_ with ea_; subst ea_)); subst ec_; clear en_)); have GB21 := Aside0.mk gb21; have GG21 := Aside0.mk HG21; clear gb21 gl21 HG21; obtain ⟨hx21_0, hf21_0⟩ := Kd.R_celln 0 HO187.out (a1 : Int) p21 q21; replace p21 := eq_true p21; replace q21 := eq_true q21; obtain ⟨hy25_, hz25_⟩ := Kd.R_celln 0 HO187.out (a1 : Int) (of_decide_eq_true (by first | (with_reducible assumption) | assumption)) (of_decide_eq_true (by first | (with_reducible assumption) | assumption)); have HP25 := Kd.R_putg HO187.out (a1 : Int) a2) | ((with_reducible refine gate_store (t := 5) (p := 36) rfl ?_); refine store_event (t := 5) (p := 36) (v := ?vo_w26) (w1 := (w24.setCell ⟨go21, (a1 : Int).toNat, none⟩ (.int .u8 a2))) ?hg ?ho ?hn ?hr ?_; (case ho => rfl); (case hg => rfl); (case hn => rfl); (case hr => first | (go_simp; done) | (go_simp; rfl)); intro w26 hw; have hg : w24.grownBy w26 (some go21) := (by rw [hw]; exact HP25.2); have hp_ : Kd.R (Kd.int .u8) 5 w26 w.heap.size (fun _ => True) (.slice (some ⟨go21, 0, none⟩) t185.length co21) y188 := (by rw [hw, Ny188.out]; exact HP25.1); clear HP25; have n0_ := Aside0.mk (hp_); have n1_ := Aside0.mk ((by rw [hw]; exact below_set (HB.out) GB21.out : Below w.heap.size w w26)); clear HO187; clear HB; have HO187 := n0_; have HB := n1_; clear n0_ n1_; clear hg hw hp_) | ((with_reducible refine gate_callee (f := 9) rfl ?_); refine goesL_ (some 38) rfl rfl Try.func9 (by kernel_rfl) rfl #[.slice (some ⟨go21, 0, none⟩) y188.length co21] rfl (by (try simp only [List.map_toArray, List.map_cons, List.map_nil]); first | done | (rw [show y188.length = t185.length from (Kd.R_reads' HO187.out).1.symm] <;> rfl) | rfl | (simp only [List.length_drop, List.length_take]; rfl)) ?_; (with_reducible refine (frame_Sum.calls kj11 _ _ y188 t189 _ ?side1 ?side2 A22.out).mono ?_); (case side1 => repeat (first | exact (Kd.R_reads' HO187.out).2.2 | (with_reducible refine Kd.C_alloc ?_ _) | (with_reducible refine Kd.C_drewN ?_ _) | (with_reducible refine Kd.C_drew ?_))); (case side2 => rw [show y188.length = t185.length from (Kd.R_reads' HO187.out).1.symm]; exact (Kd.R_reads' HO187.out).2.1); rintro e w' ⟨rfl, ⟨nd, rfl⟩⟩; refine ⟨_, rfl, ?_⟩) | ((with_reducible refine gate_callee (f := 9) rfl ?_); refine goesL_ (some 40) rfl rfl Try.func9 (by kernel_rfl) rfl #[.slice A0 l0.length c0] rfl (by (try simp only [List.map_toArray, List.map_cons, List.map_nil]); first | done | rfl | (simp only [List.length_drop, List.length_take]; rfl)) ?_; (with_reducible refine (frame_Sum.calls kj11 _ _ l0 t190 _ ?side1 ?side2 A23.out).mono ?_); (case side1 => repeat (first | exact (Kd.C_below HR0.out (by repeat (first | (with_reducible first | exact HB.out | apply below_alloc | apply pw_below_drewN | apply below_drew1) | exact HB.out))) | (with_reducible refine Kd.C_alloc ?_ _) | (with_reducible refine Kd.C_drewN ?_ _) | (with_reducible refine Kd.C_drew ?_))); (case side2 => exact HC0.out); rintro e w' ⟨rfl, ⟨nd, rfl⟩⟩; refine ⟨_, rfl, ?_⟩))
         go_ret
         exact ⟨by first | rfl | (simp [errW_none, errW_some] <;> rfl) | (simp [*, errW_none, errW_some] <;> rfl), by repeat (first | (with_reducible first | exact HB.out | apply below_alloc | apply pw_below_drewN | apply below_drew1) | exact HB.out)⟩
        ·rw [if_neg c20] at H
         exact absurd H (by simp)
       ·rw [if_neg c19] at H
        exact absurd H (by simp)

/-- THE ONE PURE STATEMENT of linkhouselaw2_FrameChecksumMatchesSpec: yours. -/
def linkhouselaw2_FrameChecksumMatchesSpec.Pure : Prop := ∀ (l0 : List Int) (a1 : Int) (a2 : Int), l0.length ≤ maxLen → l0.length * 1 ≤ 140737488351232 → (∀ x ∈ l0, (Lit.int .u8 x).wf = true) → (Lit.int .i64 a1).wf = true → (Lit.int .u8 a2).wf = true → ∃ k, linkhouselaw2_FrameChecksumMatchesSpec.f k l0 a1 a2 = some true
theorem linkhouselaw2_FrameChecksumMatchesSpec.walk (P : linkhouselaw2_FrameChecksumMatchesSpec.Pure) (a0 : Option Addr) (len0 cap0 : Nat) (z0 : List Int) (a1 : Int) (a2 : Int) (w : World) (w0 : (a0 = none ∧ len0 = 0 ∧ cap0 = 0 ∧ z0 = []) ∨ ∃ x, a0 = some x ∧ len0 ≤ cap0 ∧ cap0 ≤ maxLen ∧ z0.length = cap0 ∧ (∀ i, i < z0.length → w.cell? (x.add i) = some (.int .u8 (z0.getD i 0))) ∧ ∀ n ∈ z0, (Lit.int .u8 n).wf = true) (y0 : len0 * 1 ≤ 140737488351232) (w1 : (Lit.int .i64 a1).wf = true) (w2 : (Lit.int .u8 a2).wf = true) :
  Calls Try.prog 3 #[.slice a0 len0 cap0, .int .i64 a1, .int .u8 a2] w fun e w' => e = .returned (.bool true) ∧ Below w.heap.size w w' := by
 obtain ⟨l0, rfl, hr0, hm0, hw0, hc0⟩ := ReadsInt.ofRowC w0
 obtain ⟨k, h⟩ := P l0 a1 a2 hm0 y0 hw0 w1 w2
 refine (linkhouselaw2_FrameChecksumMatchesSpec.calls k _ _ l0 a1 a2 true w (Kd.C_of_reads (d := (0 : Int)) (h1 := fun _ => rfl) hr0) hc0 h).mono ?_
 rintro e w' ⟨rfl, hd⟩
 exact ⟨rfl, hd⟩

end Go.Proofs.Yteljmmdbgnjflaa.PF
