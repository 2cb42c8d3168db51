-- Written by a program of this session's own for function contracts (after the kit's print): not trusted, Lean checks it.
import Derived.Test.YtpmlcmdojmdmhaaPRx0
import Derived.Test.YtpmlcmdojmdmhaaPRxS
import Derived.Test.YtpmlcmdojmdmhaaPRx11
namespace Go.Proofs.Ytpmlcmdojmdmhaa.PR
open Go.RowKit Go.Proofs.YtpmlcmdojmdmhaaW.PrintWords Go.Proofs.YtpmlcmdojmdmhaaW.PrintLast Go.Proofs.YtpmlcmdojmdmhaaW.PrintMore
attribute [local go_sem] max2_int min2_int max_two min_two max_three min_three max_four min_four   -- for this text's walks alone
set_option linter.unusedVariables false
set_option linter.unusedSimpArgs false

/-! ### records_check: function 26 -/
mutual
def records_check.j0 : Nat → List (S32) → Int → Bool → Int → ByteArray → Int → Int → Int → List (S55) → Option (Int)
  | 0, _, _, _, _, _, _, _, _, _ => none
  | k + 1, x0, x1, x12, x126000, x126001, x126002, x126003, x126004, x126005 => if x12 = true then (some 4) else (if x126001.toList = ([] : List UInt8) then (records_check.j1 k x0 x1 false x126000 x126001 x126002 x126003 x126004 x126005) else ((token_IsName.f k x126001).bind fun t126 => (records_check.j1 k x0 x1 (!t126) x126000 x126001 x126002 x126003 x126004 x126005)))
def records_check.j1 : Nat → List (S32) → Int → Bool → Int → ByteArray → Int → Int → Int → List (S55) → Option (Int)
  | 0, _, _, _, _, _, _, _, _, _ => none
  | k + 1, x0, x1, x21, x126000, x126001, x126002, x126003, x126004, x126005 => if x21 = true then (some 12) else (if x126002 < 0 then (records_check.j2 k x0 x1 true x126000 x126001 x126002 x126003 x126004 x126005) else (if x126002 > 1000000 then (records_check.j2 k x0 x1 true x126000 x126001 x126002 x126003 x126004 x126005) else (if x126004 < 0 then (records_check.j2 k x0 x1 true x126000 x126001 x126002 x126003 x126004 x126005) else (if x126004 > 1000000 then (records_check.j2 k x0 x1 true x126000 x126001 x126002 x126003 x126004 x126005) else (if x126003 < 0 then (records_check.j2 k x0 x1 true x126000 x126001 x126002 x126003 x126004 x126005) else (records_check.j2 k x0 x1 (decide (x126003 ≥ (x0.length : Int))) x126000 x126001 x126002 x126003 x126004 x126005))))))
def records_check.j2 : Nat → List (S32) → Int → Bool → Int → ByteArray → Int → Int → Int → List (S55) → Option (Int)
  | 0, _, _, _, _, _, _, _, _, _ => none
  | k + 1, x0, x1, x31, x126000, x126001, x126002, x126003, x126004, x126005 => if x31 = true then (some 3) else (if x126000 = 3 then (if x126000 = 4 then (if x126000 = 1 then (records_check.j3 k x0 x1 (x126003 != 0) x126000 x126001 x126002 x126003 x126004 x126005) else (records_check.j3 k x0 x1 (x126003 != 0) x126000 x126001 x126002 x126003 x126004 x126005)) else (if (x126005.length : Int) > 0 then (records_check.j3 k x0 x1 true x126000 x126001 x126002 x126003 x126004 x126005) else (if x126000 = 1 then (records_check.j3 k x0 x1 (x126003 != 0) x126000 x126001 x126002 x126003 x126004 x126005) else (records_check.j3 k x0 x1 false x126000 x126001 x126002 x126003 x126004 x126005)))) else (if x126004 = 0 then (if x126000 = 4 then (if x126000 = 1 then (records_check.j3 k x0 x1 (x126003 != 0) x126000 x126001 x126002 x126003 x126004 x126005) else (records_check.j3 k x0 x1 (x126003 != 0) x126000 x126001 x126002 x126003 x126004 x126005)) else (if (x126005.length : Int) > 0 then (records_check.j3 k x0 x1 true x126000 x126001 x126002 x126003 x126004 x126005) else (if x126000 = 1 then (records_check.j3 k x0 x1 (x126003 != 0) x126000 x126001 x126002 x126003 x126004 x126005) else (records_check.j3 k x0 x1 false x126000 x126001 x126002 x126003 x126004 x126005)))) else (records_check.j3 k x0 x1 true x126000 x126001 x126002 x126003 x126004 x126005)))
def records_check.j3 : Nat → List (S32) → Int → Bool → Int → ByteArray → Int → Int → Int → List (S55) → Option (Int)
  | 0, _, _, _, _, _, _, _, _, _ => none
  | k + 1, x0, x1, x62, x126000, x126001, x126002, x126003, x126004, x126005 => if x62 = true then (some 5) else (if x126000 = 1 then (if x126002 = 1 then (if x126000 = 2 then (records_check.j4 k x0 x1 (x126002 != 4) x126000 x126001 x126002 x126003 x126004 x126005) else (records_check.j4 k x0 x1 false x126000 x126001 x126002 x126003 x126004 x126005)) else (if x126002 = 4 then (if x126000 = 2 then (records_check.j4 k x0 x1 (x126002 != 4) x126000 x126001 x126002 x126003 x126004 x126005) else (records_check.j4 k x0 x1 false x126000 x126001 x126002 x126003 x126004 x126005)) else (records_check.j4 k x0 x1 true x126000 x126001 x126002 x126003 x126004 x126005))) else (if x126000 = 2 then (records_check.j4 k x0 x1 (x126002 != 4) x126000 x126001 x126002 x126003 x126004 x126005) else (records_check.j4 k x0 x1 false x126000 x126001 x126002 x126003 x126004 x126005)))
def records_check.j4 : Nat → List (S32) → Int → Bool → Int → ByteArray → Int → Int → Int → List (S55) → Option (Int)
  | 0, _, _, _, _, _, _, _, _, _ => none
  | k + 1, x0, x1, x97, x126000, x126001, x126002, x126003, x126004, x126005 => if x97 = true then (some 9) else (if x126000 = 3 then (records_check.j5 k x0 x1 (decide (x126003 ≥ x1)) x126000 x126001 x126002 x126003 x126004 x126005) else (records_check.j5 k x0 x1 false x126000 x126001 x126002 x126003 x126004 x126005))
def records_check.j5 : Nat → List (S32) → Int → Bool → Int → ByteArray → Int → Int → Int → List (S55) → Option (Int)
  | 0, _, _, _, _, _, _, _, _, _ => none
  | k + 1, x0, x1, x121, x126000, x126001, x126002, x126003, x126004, x126005 => if x121 = true then (some 3) else (if x126000 = 3 then (if 0 ≤ x126003 then (if x126003 < (x0.length : Int) then (records_check.j6 k x0 x1 (x126002 != (wrap64 (x126004 * ((rd_T32 x0 x126003).f2)))) x126000 x126001 x126002 x126003 x126004 x126005) else (none)) else (none)) else (records_check.j6 k x0 x1 false x126000 x126001 x126002 x126003 x126004 x126005))
def records_check.j6 : Nat → List (S32) → Int → Bool → Int → ByteArray → Int → Int → Int → List (S55) → Option (Int)
  | 0, _, _, _, _, _, _, _, _, _ => none
  | k + 1, x0, x1, x131, x126000, x126001, x126002, x126003, x126004, x126005 => if x131 = true then (some 9) else (if (x126005.length : Int) > 8 then (some 2) else (records_check.l0 k x0 x1 (x126005.length : Int) 0))
def records_check.l0 : Nat → List (S32) → Int → Int → Int → Option (Int)
  | 0, _, _, _, _ => none
  | k + 1, x0, x1, x156, x157 => if x157 < x156 then ((records_field.f k x0 x1 x157).bind fun t128 => (if t128 = 0 then (records_check.l0 k x0 x1 x156 (wrap64 (x157 + 1))) else (some t128))) else (some 0)
end
def records_check.f (k : Nat) (l0 : List (S32)) (a1 : Int) : Option (Int) := if 0 ≤ a1 then (if a1 < (l0.length : Int) then (if ((rd_T32 l0 a1).f0) < 1 then (records_check.j0 k l0 a1 true ((rd_T32 l0 a1).f0) ((rd_T32 l0 a1).f1) ((rd_T32 l0 a1).f2) ((rd_T32 l0 a1).f3) ((rd_T32 l0 a1).f4) ((rd_T32 l0 a1).f5)) else (records_check.j0 k l0 a1 (decide (((rd_T32 l0 a1).f0) > 4)) ((rd_T32 l0 a1).f0) ((rd_T32 l0 a1).f1) ((rd_T32 l0 a1).f2) ((rd_T32 l0 a1).f3) ((rd_T32 l0 a1).f4) ((rd_T32 l0 a1).f5))) else (none)) else (none)
set_option maxHeartbeats 8000000 in
set_option maxRecDepth 100000 in
theorem records_check.calls (k : Nat) (A0 : Option Addr) (c0 : Nat) (l0 : List (S32)) (a1 : Int) (r : Int) (w : World) (hr0 : Kd.C k32 w A0 l0.length l0) (hc0 : l0.length ≤ c0) (h : records_check.f k l0 a1 = some r) :
  Calls Try.prog 26 #[.slice A0 l0.length c0, .int .i64 a1] w fun e w' => e = .returned (.int .i64 r) ∧ Below w.heap.size w w' := by
 have hu32 := Try.underlying32
 have HR0 := Aside0.mk hr0
 have HC0 := Aside0.mk hc0
 clear hr0 hc0
 have HB := Aside0.mk (Below.refl w.heap.size w)
 have H : (if 0 ≤ a1 then (if a1 < (l0.length : Int) then (if ((rd_T32 l0 a1).f0) < 1 then (records_check.j0 k l0 a1 true ((rd_T32 l0 a1).f0) ((rd_T32 l0 a1).f1) ((rd_T32 l0 a1).f2) ((rd_T32 l0 a1).f3) ((rd_T32 l0 a1).f4) ((rd_T32 l0 a1).f5)) else (records_check.j0 k l0 a1 (decide (((rd_T32 l0 a1).f0) > 4)) ((rd_T32 l0 a1).f0) ((rd_T32 l0 a1).f1) ((rd_T32 l0 a1).f2) ((rd_T32 l0 a1).f3) ((rd_T32 l0 a1).f4) ((rd_T32 l0 a1).f5))) else (none)) else (none)) = some r := h
 clear h
 by_cases c3 : 0 ≤ a1
 case neg => rw [if_neg c3] at H; exact absurd H (by simp)
 rw [if_pos c3] at H
 have c3b0 : decide (0 ≤ a1) = true := decide_eq_true c3
 clear c3
 by_cases c4 : a1 < (l0.length : Int)
 case neg => rw [if_neg c4] at H; exact absurd H (by simp)
 rw [if_pos c4] at H
 have c4b0 : decide (a1 < (l0.length : Int)) = true := decide_eq_true c4
 clear c4
 have HC5 := Aside0.mk H
 clear H
 have p124 : 0 ≤ (a1 : Int) := of_decide_eq_true (by first | (with_reducible assumption) | assumption)
 have q124 : a1 < (l0.length : Int) := of_decide_eq_true (by first | (with_reducible assumption) | assumption)
 obtain ⟨ad124, A124_5, c124_5, e124, hx124_0, hx124_1, hx124_2, hx124_3, hx124_4, hx124_5, hl124_5, hi124_5⟩ := at_T32 HR0.out a1 p124 q124
 cases e124
 have HR124_5 := Aside0.mk hi124_5
 have HC124_5 := Aside0.mk hl124_5
 clear hi124_5 hl124_5
 replace p124 := eq_true p124
 replace q124 := eq_true q124
 go_enter Try.func26, Try.ntmps26
 go_upto_region 2 with (first | ((with_reducible refine gate_dst (N := 5) rfl ?_); (try (refine gate_guard (by rfl) ?_; dsimp only)); refine box_event ?hg (N := 5) ?hd (cs := #[.int .i64 0, .string (⟨#[]⟩ : ByteArray), .int .i64 0, .int .i64 0, .int .i64 0, .slice none 0 0]) (t := 32) ?hr ?_; (case hd => rfl); (case hg => rfl); (case hr => first | (go_simp; done) | (go_simp; rfl)); intro gb125 hg w6 hbox hb; have n0_ := Aside0.mk (below_step (by repeat (first | (with_reducible first | exact HB.out | apply below_alloc | apply pw_below_drewN | apply below_drew1) | exact HB.out)) hb); have n1_ := Aside0.mk (hbox); have n2_ := Aside0.mk ((by rw [hg]; exact (below_size (by repeat (first | (with_reducible first | exact HB.out | apply below_alloc | apply pw_below_drewN | apply below_drew1) | exact HB.out))) : w.heap.size ≤ gb125)); have n3_ := Aside0.mk ((by rw [hg]; exact (below_size (by repeat (first | (with_reducible first | exact HB.out | apply below_alloc | apply pw_below_drewN | apply below_drew1) | exact HB.out))) : w.heap.size ≤ gb125)); clear HB; have HB := n0_; have BK125 := n1_; have GW125 := n2_; have GE125 := n3_; clear n0_ n1_ n2_ n3_; clear hb hbox hg; obtain ⟨hcz7_0, hcz7_1, hcz7_2, hcz7_3, hcz7_4, hcz7_5, hfz7_0, hfz7_1, hfz7_2, hfz7_3, hfz7_4, hfz7_5⟩ := cells6 BK125.out))
 repeat (go_quiet (fail); go_upto_region 2 with (fail))
 (try simp only [Act.put, List.setIfInBounds_toArray, List.set_cons_zero, List.set_cons_succ])
 go_cut [12] (fun v12 wc => ∃ (kq : Nat) (x12_4 : Bool), v12 = .bool x12_4 ∧ Aside0 (records_check.j0 kq l0 a1 x12_4 ((rd_T32 l0 a1).f0) ((rd_T32 l0 a1).f1) ((rd_T32 l0 a1).f2) ((rd_T32 l0 a1).f3) ((rd_T32 l0 a1).f4) ((rd_T32 l0 a1).f5) = some r) ∧ Aside0 (kq ≤ k) ∧ Aside0 (wc.heap[gb125]? = some (.cells #[.int .i64 ((rd_T32 l0 a1).f0), .string ((rd_T32 l0 a1).f1), .int .i64 ((rd_T32 l0 a1).f2), .int .i64 ((rd_T32 l0 a1).f3), .int .i64 ((rd_T32 l0 a1).f4), (.slice A124_5 ((rd_T32 l0 a1).f5).length c124_5)] 32 (0, 0))) ∧ Aside0 (Below w.heap.size w wc))
 case first =>
  have H := HC5.out
  clear HC5
  by_cases c8 : ((rd_T32 l0 a1).f0) < 1
  ·rw [if_pos c8] at H
   have c8b0 : decide (((rd_T32 l0 a1).f0) < 1) = true := decide_eq_true c8
   clear c8
   (first | rw [c8b0] | (simp only [i64_w, i32_w]; rw [c8b0]) | skip)
   have H' := Aside0.mk H
   clear H
   obtain ⟨hcz9_0, hcz9_1, hcz9_2, hcz9_3, hcz9_4, hcz9_5, hfz9_0, hfz9_1, hfz9_2, hfz9_3, hfz9_4, hfz9_5⟩ := cells6 BK125.out
   go_wp2
   repeat (go_quiet (fail); try go_wp2)
   go_meet
   case rel => exact ⟨_, (true), (by first | rfl | (simp; done) | (simp [*]; done)), H', ⟨by first | omega | exact Nat.le_refl _⟩, ⟨by (with_reducible repeat (first | refine blk_drewN ?_ _ | refine blk_drew ?_ | refine blk_alloc ?_ _)); refine blk_put (cs := #[.int .i64 ((rd_T32 l0 a1).f0), .string ((rd_T32 l0 a1).f1), .int .i64 ((rd_T32 l0 a1).f2), .int .i64 ((rd_T32 l0 a1).f3), .int .i64 ((rd_T32 l0 a1).f4), .slice none 0 0]) ?_ 5 _ rfl; (with_reducible repeat (first | refine blk_drewN ?_ _ | refine blk_drew ?_ | refine blk_alloc ?_ _)); refine blk_put (cs := #[.int .i64 ((rd_T32 l0 a1).f0), .string ((rd_T32 l0 a1).f1), .int .i64 ((rd_T32 l0 a1).f2), .int .i64 ((rd_T32 l0 a1).f3), .int .i64 0, .slice none 0 0]) ?_ 4 _ rfl; (with_reducible repeat (first | refine blk_drewN ?_ _ | refine blk_drew ?_ | refine blk_alloc ?_ _)); refine blk_put (cs := #[.int .i64 ((rd_T32 l0 a1).f0), .string ((rd_T32 l0 a1).f1), .int .i64 ((rd_T32 l0 a1).f2), .int .i64 0, .int .i64 0, .slice none 0 0]) ?_ 3 _ rfl; (with_reducible repeat (first | refine blk_drewN ?_ _ | refine blk_drew ?_ | refine blk_alloc ?_ _)); refine blk_put (cs := #[.int .i64 ((rd_T32 l0 a1).f0), .string ((rd_T32 l0 a1).f1), .int .i64 0, .int .i64 0, .int .i64 0, .slice none 0 0]) ?_ 2 _ rfl; (with_reducible repeat (first | refine blk_drewN ?_ _ | refine blk_drew ?_ | refine blk_alloc ?_ _)); refine blk_put (cs := #[.int .i64 ((rd_T32 l0 a1).f0), .string (⟨#[]⟩ : ByteArray), .int .i64 0, .int .i64 0, .int .i64 0, .slice none 0 0]) ?_ 1 _ rfl; (with_reducible repeat (first | refine blk_drewN ?_ _ | refine blk_drew ?_ | refine blk_alloc ?_ _)); refine blk_put (cs := #[.int .i64 0, .string (⟨#[]⟩ : ByteArray), .int .i64 0, .int .i64 0, .int .i64 0, .slice none 0 0]) ?_ 0 _ rfl; (with_reducible repeat (first | refine blk_drewN ?_ _ | refine blk_drew ?_ | refine blk_alloc ?_ _)); exact BK125.out⟩, ⟨by repeat (first | (with_reducible first | exact HB.out | apply below_alloc | apply pw_below_drewN | apply below_drew1 | refine below_set ?_ GE125.out) | exact HB.out)⟩⟩
  ·rw [if_neg c8] at H
   have c8b0 : decide (((rd_T32 l0 a1).f0) < 1) = false := decide_eq_false c8
   clear c8
   (first | rw [c8b0] | (simp only [i64_w, i32_w]; rw [c8b0]) | skip)
   have H' := Aside0.mk H
   clear H
   obtain ⟨hcz10_0, hcz10_1, hcz10_2, hcz10_3, hcz10_4, hcz10_5, hfz10_0, hfz10_1, hfz10_2, hfz10_3, hfz10_4, hfz10_5⟩ := cells6 BK125.out
   go_wp2
   repeat (go_quiet (fail); try go_wp2)
   go_meet
   case rel => exact ⟨_, (decide (((rd_T32 l0 a1).f0) > 4)), (by first | rfl | (simp; done) | (simp [*]; done)), H', ⟨by first | omega | exact Nat.le_refl _⟩, ⟨by (with_reducible repeat (first | refine blk_drewN ?_ _ | refine blk_drew ?_ | refine blk_alloc ?_ _)); refine blk_put (cs := #[.int .i64 ((rd_T32 l0 a1).f0), .string ((rd_T32 l0 a1).f1), .int .i64 ((rd_T32 l0 a1).f2), .int .i64 ((rd_T32 l0 a1).f3), .int .i64 ((rd_T32 l0 a1).f4), .slice none 0 0]) ?_ 5 _ rfl; (with_reducible repeat (first | refine blk_drewN ?_ _ | refine blk_drew ?_ | refine blk_alloc ?_ _)); refine blk_put (cs := #[.int .i64 ((rd_T32 l0 a1).f0), .string ((rd_T32 l0 a1).f1), .int .i64 ((rd_T32 l0 a1).f2), .int .i64 ((rd_T32 l0 a1).f3), .int .i64 0, .slice none 0 0]) ?_ 4 _ rfl; (with_reducible repeat (first | refine blk_drewN ?_ _ | refine blk_drew ?_ | refine blk_alloc ?_ _)); refine blk_put (cs := #[.int .i64 ((rd_T32 l0 a1).f0), .string ((rd_T32 l0 a1).f1), .int .i64 ((rd_T32 l0 a1).f2), .int .i64 0, .int .i64 0, .slice none 0 0]) ?_ 3 _ rfl; (with_reducible repeat (first | refine blk_drewN ?_ _ | refine blk_drew ?_ | refine blk_alloc ?_ _)); refine blk_put (cs := #[.int .i64 ((rd_T32 l0 a1).f0), .string ((rd_T32 l0 a1).f1), .int .i64 0, .int .i64 0, .int .i64 0, .slice none 0 0]) ?_ 2 _ rfl; (with_reducible repeat (first | refine blk_drewN ?_ _ | refine blk_drew ?_ | refine blk_alloc ?_ _)); refine blk_put (cs := #[.int .i64 ((rd_T32 l0 a1).f0), .string (⟨#[]⟩ : ByteArray), .int .i64 0, .int .i64 0, .int .i64 0, .slice none 0 0]) ?_ 1 _ rfl; (with_reducible repeat (first | refine blk_drewN ?_ _ | refine blk_drew ?_ | refine blk_alloc ?_ _)); refine blk_put (cs := #[.int .i64 0, .string (⟨#[]⟩ : ByteArray), .int .i64 0, .int .i64 0, .int .i64 0, .slice none 0 0]) ?_ 0 _ rfl; (with_reducible repeat (first | refine blk_drewN ?_ _ | refine blk_drew ?_ | refine blk_alloc ?_ _)); exact BK125.out⟩, ⟨by repeat (first | (with_reducible first | exact HB.out | apply below_alloc | apply pw_below_drewN | apply below_drew1 | refine below_set ?_ GE125.out) | exact HB.out)⟩⟩
 case rest =>
  as_aux_lemma =>
  clear HC5
  try clear c3; try clear c3b0; try clear c4; try clear c4b0; try clear hcz7_0; try clear hcz7_1; try clear hcz7_2; try clear hcz7_3; try clear hcz7_4; try clear hcz7_5; try clear hfz7_0; try clear hfz7_1; try clear hfz7_2; try clear hfz7_3; try clear hfz7_4; try clear hfz7_5; try clear hx124_0; try clear hx124_1; try clear hx124_2; try clear hx124_3; try clear hx124_4; try clear hx124_5; try clear p124; try clear q124
  obtain ⟨kq, x12_4, rfl, HA, HJ4, BK125, HB⟩ := hcut
  cases kq with
  | zero => exact absurd HA.out (by simp [records_check.j0])
  | succ kj4 =>
   have H := HA.out
   clear HA
   simp only [records_check.j0] at H
   by_cases c11 : x12_4 = true
   ·subst c11
    have H1 : (some 4) = some r := by rw [if_pos rfl] at H; exact H
    replace H := H1; clear H1
    obtain rfl := Option.some.inj H
    go_wp2
    repeat (go_quiet (fail); try go_wp2)
    go_ret
    exact ⟨by first | rfl | (simp [errW_none, errW_some] <;> rfl) | (simp [*, errW_none, errW_some] <;> rfl), by repeat (first | (with_reducible first | exact HB.out | apply below_alloc | apply pw_below_drewN | apply below_drew1 | refine below_set ?_ GE125.out) | exact HB.out)⟩
   ·replace c11 := Bool.eq_false_iff.mpr c11
    subst c11
    have H1 : (if ((rd_T32 l0 a1).f1).toList = ([] : List UInt8) then (records_check.j1 kj4 l0 a1 false ((rd_T32 l0 a1).f0) ((rd_T32 l0 a1).f1) ((rd_T32 l0 a1).f2) ((rd_T32 l0 a1).f3) ((rd_T32 l0 a1).f4) ((rd_T32 l0 a1).f5)) else ((token_IsName.f kj4 ((rd_T32 l0 a1).f1)).bind fun t126 => (records_check.j1 kj4 l0 a1 (!t126) ((rd_T32 l0 a1).f0) ((rd_T32 l0 a1).f1) ((rd_T32 l0 a1).f2) ((rd_T32 l0 a1).f3) ((rd_T32 l0 a1).f4) ((rd_T32 l0 a1).f5)))) = some r := by rw [if_neg (show ¬ (false = true) by decide)] at H; exact H
    replace H := H1; clear H1
    have HC12 := Aside0.mk H
    clear H
    go_upto_region 4 with (fail)
    repeat (go_quiet (fail); go_upto_region 4 with (fail))
    go_cut [21] (fun v21 wc => ∃ (kq : Nat) (x21_11 : Bool), v21 = .bool x21_11 ∧ Aside0 (records_check.j1 kq l0 a1 x21_11 ((rd_T32 l0 a1).f0) ((rd_T32 l0 a1).f1) ((rd_T32 l0 a1).f2) ((rd_T32 l0 a1).f3) ((rd_T32 l0 a1).f4) ((rd_T32 l0 a1).f5) = some r) ∧ Aside0 (kq ≤ kj4) ∧ Aside0 (wc.heap[gb125]? = some (.cells #[.int .i64 ((rd_T32 l0 a1).f0), .string ((rd_T32 l0 a1).f1), .int .i64 ((rd_T32 l0 a1).f2), .int .i64 ((rd_T32 l0 a1).f3), .int .i64 ((rd_T32 l0 a1).f4), (.slice A124_5 ((rd_T32 l0 a1).f5).length c124_5)] 32 (0, 0))) ∧ Aside0 (Below w.heap.size w wc))
    case first =>
     have H := HC12.out
     clear HC12
     by_cases c13 : ((rd_T32 l0 a1).f1).toList = ([] : List UInt8)
     ·rw [if_pos c13] at H
      have c13b0 : (((rd_T32 l0 a1).f1).toList == ([] : List UInt8)) = true := beq_iff_eq.mpr c13
      have c13b1 : (((rd_T32 l0 a1).f1).toList != ([] : List UInt8)) = false := bne_eq_false_iff_eq.mpr c13
      clear c13
      (first | rw [c13b0] | (simp only [i64_w, i32_w]; rw [c13b0]) | skip)
      have H' := Aside0.mk H
      clear H
      obtain ⟨hcz14_0, hcz14_1, hcz14_2, hcz14_3, hcz14_4, hcz14_5, hfz14_0, hfz14_1, hfz14_2, hfz14_3, hfz14_4, hfz14_5⟩ := cells6 BK125.out
      go_wp2
      repeat (go_quiet (fail); try go_wp2)
      go_meet
      case rel => exact ⟨_, (false), (by first | rfl | (simp; done) | (simp [*]; done)), H', ⟨by have := HJ4.out; first | omega | exact Nat.le_refl _⟩, ⟨by (with_reducible repeat (first | refine blk_drewN ?_ _ | refine blk_drew ?_ | refine blk_alloc ?_ _)); exact BK125.out⟩, ⟨by repeat (first | (with_reducible first | exact HB.out | apply below_alloc | apply pw_below_drewN | apply below_drew1 | refine below_set ?_ GE125.out) | exact HB.out)⟩⟩
     ·rw [if_neg c13] at H
      have c13b0 : (((rd_T32 l0 a1).f1).toList == ([] : List UInt8)) = false := beq_eq_false_iff_ne.mpr c13
      have c13b1 : (((rd_T32 l0 a1).f1).toList != ([] : List UInt8)) = true := bne_iff_ne.mpr c13
      (first | rw [c13b0] | (simp only [i64_w, i32_w]; rw [c13b0]) | skip)
      replace H := Option.bind_eq_some_iff.mp H
      obtain ⟨t126, A150, H⟩ := H
      replace H : (records_check.j1 kj4 l0 a1 (!t126) ((rd_T32 l0 a1).f0) ((rd_T32 l0 a1).f1) ((rd_T32 l0 a1).f2) ((rd_T32 l0 a1).f3) ((rd_T32 l0 a1).f4) ((rd_T32 l0 a1).f5)) = some r := H
      have A15 := Aside0.mk A150
      clear A150
      have H' := Aside0.mk H
      clear H
      obtain ⟨hcz16_0, hcz16_1, hcz16_2, hcz16_3, hcz16_4, hcz16_5, hfz16_0, hfz16_1, hfz16_2, hfz16_3, hfz16_4, hfz16_5⟩ := cells6 BK125.out
      go_wp2_with (first | (go_at_call 33; (with_reducible refine (token_IsName.calls kj4 ((rd_T32 l0 a1).f1) t126 _ A15.out).mono ?_); rintro e w' ⟨rfl, ⟨nd, rfl⟩⟩; (try first | exact ⟨rfl, _, World.drewN_drewN _ _ _⟩ | exact ⟨rfl, _, Eq.trans (World.drewN_drewN _ _ _) (congrArg (World.drewN _) (Nat.add_assoc _ _ _))⟩)))
      repeat (go_quiet (fail); try go_wp2)
      go_meet
      case rel => exact ⟨_, (!t126), (by first | rfl | (simp; done) | (simp [*]; done)), H', ⟨by have := HJ4.out; first | omega | exact Nat.le_refl _⟩, ⟨by (with_reducible repeat (first | refine blk_drewN ?_ _ | refine blk_drew ?_ | refine blk_alloc ?_ _)); exact BK125.out⟩, ⟨by repeat (first | (with_reducible first | exact HB.out | apply below_alloc | apply pw_below_drewN | apply below_drew1 | refine below_set ?_ GE125.out) | exact HB.out)⟩⟩
    case rest =>
     as_aux_lemma =>
     clear HC12
     try clear c3; try clear c3b0; try clear c4; try clear c4b0; try clear c11; try clear hcz7_0; try clear hcz7_1; try clear hcz7_2; try clear hcz7_3; try clear hcz7_4; try clear hcz7_5; try clear hfz7_0; try clear hfz7_1; try clear hfz7_2; try clear hfz7_3; try clear hfz7_4; try clear hfz7_5; try clear hx124_0; try clear hx124_1; try clear hx124_2; try clear hx124_3; try clear hx124_4; try clear hx124_5; try clear p124; try clear q124
     obtain ⟨kq, x21_11, rfl, HA, HJ11, BK125, HB⟩ := hcut
     cases kq with
     | zero => exact absurd HA.out (by simp [records_check.j1])
     | succ kj11 =>
      have H := HA.out
      clear HA
      simp only [records_check.j1] at H
      by_cases c17 : x21_11 = true
      ·subst c17
       have H1 : (some 12) = some r := by rw [if_pos rfl] at H; exact H
       replace H := H1; clear H1
       obtain rfl := Option.some.inj H
       go_wp2
       repeat (go_quiet (fail); try go_wp2)
       go_ret
       exact ⟨by first | rfl | (simp [errW_none, errW_some] <;> rfl) | (simp [*, errW_none, errW_some] <;> rfl), by repeat (first | (with_reducible first | exact HB.out | apply below_alloc | apply pw_below_drewN | apply below_drew1 | refine below_set ?_ GE125.out) | exact HB.out)⟩
      ·replace c17 := Bool.eq_false_iff.mpr c17
       subst c17
       have H1 : (if ((rd_T32 l0 a1).f2) < 0 then (records_check.j2 kj11 l0 a1 true ((rd_T32 l0 a1).f0) ((rd_T32 l0 a1).f1) ((rd_T32 l0 a1).f2) ((rd_T32 l0 a1).f3) ((rd_T32 l0 a1).f4) ((rd_T32 l0 a1).f5)) else (if ((rd_T32 l0 a1).f2) > 1000000 then (records_check.j2 kj11 l0 a1 true ((rd_T32 l0 a1).f0) ((rd_T32 l0 a1).f1) ((rd_T32 l0 a1).f2) ((rd_T32 l0 a1).f3) ((rd_T32 l0 a1).f4) ((rd_T32 l0 a1).f5)) else (if ((rd_T32 l0 a1).f4) < 0 then (records_check.j2 kj11 l0 a1 true ((rd_T32 l0 a1).f0) ((rd_T32 l0 a1).f1) ((rd_T32 l0 a1).f2) ((rd_T32 l0 a1).f3) ((rd_T32 l0 a1).f4) ((rd_T32 l0 a1).f5)) else (if ((rd_T32 l0 a1).f4) > 1000000 then (records_check.j2 kj11 l0 a1 true ((rd_T32 l0 a1).f0) ((rd_T32 l0 a1).f1) ((rd_T32 l0 a1).f2) ((rd_T32 l0 a1).f3) ((rd_T32 l0 a1).f4) ((rd_T32 l0 a1).f5)) else (if ((rd_T32 l0 a1).f3) < 0 then (records_check.j2 kj11 l0 a1 true ((rd_T32 l0 a1).f0) ((rd_T32 l0 a1).f1) ((rd_T32 l0 a1).f2) ((rd_T32 l0 a1).f3) ((rd_T32 l0 a1).f4) ((rd_T32 l0 a1).f5)) else (records_check.j2 kj11 l0 a1 (decide (((rd_T32 l0 a1).f3) ≥ (l0.length : Int))) ((rd_T32 l0 a1).f0) ((rd_T32 l0 a1).f1) ((rd_T32 l0 a1).f2) ((rd_T32 l0 a1).f3) ((rd_T32 l0 a1).f4) ((rd_T32 l0 a1).f5))))))) = some r := by rw [if_neg (show ¬ (false = true) by decide)] at H; exact H
       replace H := H1; clear H1
       have HC18 := Aside0.mk H
       clear H
       go_upto_region 6 with (fail)
       repeat (go_quiet (fail); go_upto_region 6 with (fail))
       go_cut [31] (fun v31 wc => ∃ (kq : Nat) (x31_17 : Bool), v31 = .bool x31_17 ∧ Aside0 (records_check.j2 kq l0 a1 x31_17 ((rd_T32 l0 a1).f0) ((rd_T32 l0 a1).f1) ((rd_T32 l0 a1).f2) ((rd_T32 l0 a1).f3) ((rd_T32 l0 a1).f4) ((rd_T32 l0 a1).f5) = some r) ∧ Aside0 (kq ≤ kj11) ∧ Aside0 (wc.heap[gb125]? = some (.cells #[.int .i64 ((rd_T32 l0 a1).f0), .string ((rd_T32 l0 a1).f1), .int .i64 ((rd_T32 l0 a1).f2), .int .i64 ((rd_T32 l0 a1).f3), .int .i64 ((rd_T32 l0 a1).f4), (.slice A124_5 ((rd_T32 l0 a1).f5).length c124_5)] 32 (0, 0))) ∧ Aside0 (Below w.heap.size w wc))
       case first =>
        have H := HC18.out
        clear HC18
        by_cases c19 : ((rd_T32 l0 a1).f2) < 0
        ·rw [if_pos c19] at H
         have c19b0 : decide (((rd_T32 l0 a1).f2) < 0) = true := decide_eq_true c19
         clear c19
         (first | rw [c19b0] | (simp only [i64_w, i32_w]; rw [c19b0]) | skip)
         have H' := Aside0.mk H
         clear H
         obtain ⟨hcz20_0, hcz20_1, hcz20_2, hcz20_3, hcz20_4, hcz20_5, hfz20_0, hfz20_1, hfz20_2, hfz20_3, hfz20_4, hfz20_5⟩ := cells6 BK125.out
         go_wp2
         repeat (go_quiet (fail); try go_wp2)
         go_meet
         case rel => exact ⟨_, (true), (by first | rfl | (simp; done) | (simp [*]; done)), H', ⟨by have := HJ4.out; have := HJ11.out; first | omega | exact Nat.le_refl _⟩, ⟨by (with_reducible repeat (first | refine blk_drewN ?_ _ | refine blk_drew ?_ | refine blk_alloc ?_ _)); exact BK125.out⟩, ⟨by repeat (first | (with_reducible first | exact HB.out | apply below_alloc | apply pw_below_drewN | apply below_drew1 | refine below_set ?_ GE125.out) | exact HB.out)⟩⟩
        ·rw [if_neg c19] at H
         have c19b0 : decide (((rd_T32 l0 a1).f2) < 0) = false := decide_eq_false c19
         clear c19
         (first | rw [c19b0] | (simp only [i64_w, i32_w]; rw [c19b0]) | skip)
         by_cases c21 : ((rd_T32 l0 a1).f2) > 1000000
         ·rw [if_pos c21] at H
          have c21b0 : decide (1000000 < ((rd_T32 l0 a1).f2)) = true := decide_eq_true c21
          clear c21
          have H' := Aside0.mk H
          clear H
          obtain ⟨hcz22_0, hcz22_1, hcz22_2, hcz22_3, hcz22_4, hcz22_5, hfz22_0, hfz22_1, hfz22_2, hfz22_3, hfz22_4, hfz22_5⟩ := cells6 BK125.out
          go_wp2
          repeat (go_quiet (fail); try go_wp2)
          go_meet
          case rel => exact ⟨_, (true), (by first | rfl | (simp; done) | (simp [*]; done)), H', ⟨by have := HJ4.out; have := HJ11.out; first | omega | exact Nat.le_refl _⟩, ⟨by (with_reducible repeat (first | refine blk_drewN ?_ _ | refine blk_drew ?_ | refine blk_alloc ?_ _)); exact BK125.out⟩, ⟨by repeat (first | (with_reducible first | exact HB.out | apply below_alloc | apply pw_below_drewN | apply below_drew1 | refine below_set ?_ GE125.out) | exact HB.out)⟩⟩
         ·rw [if_neg c21] at H
          have c21b0 : decide (1000000 < ((rd_T32 l0 a1).f2)) = false := decide_eq_false c21
          clear c21
          by_cases c23 : ((rd_T32 l0 a1).f4) < 0
          ·rw [if_pos c23] at H
           have c23b0 : decide (((rd_T32 l0 a1).f4) < 0) = true := decide_eq_true c23
           clear c23
           have H' := Aside0.mk H
           clear H
           obtain ⟨hcz24_0, hcz24_1, hcz24_2, hcz24_3, hcz24_4, hcz24_5, hfz24_0, hfz24_1, hfz24_2, hfz24_3, hfz24_4, hfz24_5⟩ := cells6 BK125.out
           go_wp2
           repeat (go_quiet (fail); try go_wp2)
           go_meet
           case rel => exact ⟨_, (true), (by first | rfl | (simp; done) | (simp [*]; done)), H', ⟨by have := HJ4.out; have := HJ11.out; first | omega | exact Nat.le_refl _⟩, ⟨by (with_reducible repeat (first | refine blk_drewN ?_ _ | refine blk_drew ?_ | refine blk_alloc ?_ _)); exact BK125.out⟩, ⟨by repeat (first | (with_reducible first | exact HB.out | apply below_alloc | apply pw_below_drewN | apply below_drew1 | refine below_set ?_ GE125.out) | exact HB.out)⟩⟩
          ·rw [if_neg c23] at H
           have c23b0 : decide (((rd_T32 l0 a1).f4) < 0) = false := decide_eq_false c23
           clear c23
           by_cases c25 : ((rd_T32 l0 a1).f4) > 1000000
           ·rw [if_pos c25] at H
            have c25b0 : decide (1000000 < ((rd_T32 l0 a1).f4)) = true := decide_eq_true c25
            clear c25
            have H' := Aside0.mk H
            clear H
            obtain ⟨hcz26_0, hcz26_1, hcz26_2, hcz26_3, hcz26_4, hcz26_5, hfz26_0, hfz26_1, hfz26_2, hfz26_3, hfz26_4, hfz26_5⟩ := cells6 BK125.out
            go_wp2
            repeat (go_quiet (fail); try go_wp2)
            go_meet
            case rel => exact ⟨_, (true), (by first | rfl | (simp; done) | (simp [*]; done)), H', ⟨by have := HJ4.out; have := HJ11.out; first | omega | exact Nat.le_refl _⟩, ⟨by (with_reducible repeat (first | refine blk_drewN ?_ _ | refine blk_drew ?_ | refine blk_alloc ?_ _)); exact BK125.out⟩, ⟨by repeat (first | (with_reducible first | exact HB.out | apply below_alloc | apply pw_below_drewN | apply below_drew1 | refine below_set ?_ GE125.out) | exact HB.out)⟩⟩
           ·rw [if_neg c25] at H
            have c25b0 : decide (1000000 < ((rd_T32 l0 a1).f4)) = false := decide_eq_false c25
            clear c25
            by_cases c27 : ((rd_T32 l0 a1).f3) < 0
            ·rw [if_pos c27] at H
             have c27b0 : decide (((rd_T32 l0 a1).f3) < 0) = true := decide_eq_true c27
             clear c27
             have H' := Aside0.mk H
             clear H
             obtain ⟨hcz28_0, hcz28_1, hcz28_2, hcz28_3, hcz28_4, hcz28_5, hfz28_0, hfz28_1, hfz28_2, hfz28_3, hfz28_4, hfz28_5⟩ := cells6 BK125.out
             go_wp2
             repeat (go_quiet (fail); try go_wp2)
             go_meet
             case rel => exact ⟨_, (true), (by first | rfl | (simp; done) | (simp [*]; done)), H', ⟨by have := HJ4.out; have := HJ11.out; first | omega | exact Nat.le_refl _⟩, ⟨by (with_reducible repeat (first | refine blk_drewN ?_ _ | refine blk_drew ?_ | refine blk_alloc ?_ _)); exact BK125.out⟩, ⟨by repeat (first | (with_reducible first | exact HB.out | apply below_alloc | apply pw_below_drewN | apply below_drew1 | refine below_set ?_ GE125.out) | exact HB.out)⟩⟩
            ·rw [if_neg c27] at H
             have c27b0 : decide (((rd_T32 l0 a1).f3) < 0) = false := decide_eq_false c27
             clear c27
             have H' := Aside0.mk H
             clear H
             obtain ⟨hcz29_0, hcz29_1, hcz29_2, hcz29_3, hcz29_4, hcz29_5, hfz29_0, hfz29_1, hfz29_2, hfz29_3, hfz29_4, hfz29_5⟩ := cells6 BK125.out
             go_wp2
             repeat (go_quiet (fail); try go_wp2)
             go_meet
             case rel => exact ⟨_, (decide (((rd_T32 l0 a1).f3) ≥ (l0.length : Int))), (by first | rfl | (simp; done) | (simp [*]; done)), H', ⟨by have := HJ4.out; have := HJ11.out; first | omega | exact Nat.le_refl _⟩, ⟨by (with_reducible repeat (first | refine blk_drewN ?_ _ | refine blk_drew ?_ | refine blk_alloc ?_ _)); exact BK125.out⟩, ⟨by repeat (first | (with_reducible first | exact HB.out | apply below_alloc | apply pw_below_drewN | apply below_drew1 | refine below_set ?_ GE125.out) | exact HB.out)⟩⟩
       case rest =>
        as_aux_lemma =>
        clear HC18
        try clear c3; try clear c3b0; try clear c4; try clear c4b0; try clear c11; try clear c17; try clear hcz7_0; try clear hcz7_1; try clear hcz7_2; try clear hcz7_3; try clear hcz7_4; try clear hcz7_5; try clear hfz7_0; try clear hfz7_1; try clear hfz7_2; try clear hfz7_3; try clear hfz7_4; try clear hfz7_5; try clear hx124_0; try clear hx124_1; try clear hx124_2; try clear hx124_3; try clear hx124_4; try clear hx124_5; try clear p124; try clear q124
        obtain ⟨kq, x31_17, rfl, HA, HJ17, BK125, HB⟩ := hcut
        cases kq with
        | zero => exact absurd HA.out (by simp [records_check.j2])
        | succ kj17 =>
         have H := HA.out
         clear HA
         simp only [records_check.j2] at H
         by_cases c30 : x31_17 = true
         ·subst c30
          have H1 : (some 3) = some r := by rw [if_pos rfl] at H; exact H
          replace H := H1; clear H1
          obtain rfl := Option.some.inj H
          go_wp2
          repeat (go_quiet (fail); try go_wp2)
          go_ret
          exact ⟨by first | rfl | (simp [errW_none, errW_some] <;> rfl) | (simp [*, errW_none, errW_some] <;> rfl), by repeat (first | (with_reducible first | exact HB.out | apply below_alloc | apply pw_below_drewN | apply below_drew1 | refine below_set ?_ GE125.out) | exact HB.out)⟩
         ·replace c30 := Bool.eq_false_iff.mpr c30
          subst c30
          have H1 : (if ((rd_T32 l0 a1).f0) = 3 then (if ((rd_T32 l0 a1).f0) = 4 then (if ((rd_T32 l0 a1).f0) = 1 then (records_check.j3 kj17 l0 a1 (((rd_T32 l0 a1).f3) != 0) ((rd_T32 l0 a1).f0) ((rd_T32 l0 a1).f1) ((rd_T32 l0 a1).f2) ((rd_T32 l0 a1).f3) ((rd_T32 l0 a1).f4) ((rd_T32 l0 a1).f5)) else (records_check.j3 kj17 l0 a1 (((rd_T32 l0 a1).f3) != 0) ((rd_T32 l0 a1).f0) ((rd_T32 l0 a1).f1) ((rd_T32 l0 a1).f2) ((rd_T32 l0 a1).f3) ((rd_T32 l0 a1).f4) ((rd_T32 l0 a1).f5))) else (if (((rd_T32 l0 a1).f5).length : Int) > 0 then (records_check.j3 kj17 l0 a1 true ((rd_T32 l0 a1).f0) ((rd_T32 l0 a1).f1) ((rd_T32 l0 a1).f2) ((rd_T32 l0 a1).f3) ((rd_T32 l0 a1).f4) ((rd_T32 l0 a1).f5)) else (if ((rd_T32 l0 a1).f0) = 1 then (records_check.j3 kj17 l0 a1 (((rd_T32 l0 a1).f3) != 0) ((rd_T32 l0 a1).f0) ((rd_T32 l0 a1).f1) ((rd_T32 l0 a1).f2) ((rd_T32 l0 a1).f3) ((rd_T32 l0 a1).f4) ((rd_T32 l0 a1).f5)) else (records_check.j3 kj17 l0 a1 false ((rd_T32 l0 a1).f0) ((rd_T32 l0 a1).f1) ((rd_T32 l0 a1).f2) ((rd_T32 l0 a1).f3) ((rd_T32 l0 a1).f4) ((rd_T32 l0 a1).f5))))) else (if ((rd_T32 l0 a1).f4) = 0 then (if ((rd_T32 l0 a1).f0) = 4 then (if ((rd_T32 l0 a1).f0) = 1 then (records_check.j3 kj17 l0 a1 (((rd_T32 l0 a1).f3) != 0) ((rd_T32 l0 a1).f0) ((rd_T32 l0 a1).f1) ((rd_T32 l0 a1).f2) ((rd_T32 l0 a1).f3) ((rd_T32 l0 a1).f4) ((rd_T32 l0 a1).f5)) else (records_check.j3 kj17 l0 a1 (((rd_T32 l0 a1).f3) != 0) ((rd_T32 l0 a1).f0) ((rd_T32 l0 a1).f1) ((rd_T32 l0 a1).f2) ((rd_T32 l0 a1).f3) ((rd_T32 l0 a1).f4) ((rd_T32 l0 a1).f5))) else (if (((rd_T32 l0 a1).f5).length : Int) > 0 then (records_check.j3 kj17 l0 a1 true ((rd_T32 l0 a1).f0) ((rd_T32 l0 a1).f1) ((rd_T32 l0 a1).f2) ((rd_T32 l0 a1).f3) ((rd_T32 l0 a1).f4) ((rd_T32 l0 a1).f5)) else (if ((rd_T32 l0 a1).f0) = 1 then (records_check.j3 kj17 l0 a1 (((rd_T32 l0 a1).f3) != 0) ((rd_T32 l0 a1).f0) ((rd_T32 l0 a1).f1) ((rd_T32 l0 a1).f2) ((rd_T32 l0 a1).f3) ((rd_T32 l0 a1).f4) ((rd_T32 l0 a1).f5)) else (records_check.j3 kj17 l0 a1 false ((rd_T32 l0 a1).f0) ((rd_T32 l0 a1).f1) ((rd_T32 l0 a1).f2) ((rd_T32 l0 a1).f3) ((rd_T32 l0 a1).f4) ((rd_T32 l0 a1).f5))))) else (records_check.j3 kj17 l0 a1 true ((rd_T32 l0 a1).f0) ((rd_T32 l0 a1).f1) ((rd_T32 l0 a1).f2) ((rd_T32 l0 a1).f3) ((rd_T32 l0 a1).f4) ((rd_T32 l0 a1).f5)))) = some r := by rw [if_neg (show ¬ (false = true) by decide)] at H; exact H
          replace H := H1; clear H1
          have HC31 := Aside0.mk H
          clear H
          go_upto_region 8 with (fail)
          repeat (go_quiet (fail); go_upto_region 8 with (fail))
          go_cut [62] (fun v62 wc => ∃ (kq : Nat) (x62_30 : Bool), v62 = .bool x62_30 ∧ Aside0 (records_check.j3 kq l0 a1 x62_30 ((rd_T32 l0 a1).f0) ((rd_T32 l0 a1).f1) ((rd_T32 l0 a1).f2) ((rd_T32 l0 a1).f3) ((rd_T32 l0 a1).f4) ((rd_T32 l0 a1).f5) = some r) ∧ Aside0 (kq ≤ kj17) ∧ Aside0 (wc.heap[gb125]? = some (.cells #[.int .i64 ((rd_T32 l0 a1).f0), .string ((rd_T32 l0 a1).f1), .int .i64 ((rd_T32 l0 a1).f2), .int .i64 ((rd_T32 l0 a1).f3), .int .i64 ((rd_T32 l0 a1).f4), (.slice A124_5 ((rd_T32 l0 a1).f5).length c124_5)] 32 (0, 0))) ∧ Aside0 (Below w.heap.size w wc))
          case first =>
           have H := HC31.out
           clear HC31
           by_cases c32 : ((rd_T32 l0 a1).f0) = 3
           ·rw [if_pos c32] at H
            have c32b0 : (((rd_T32 l0 a1).f0) == 3) = true := beq_iff_eq.mpr c32
            have c32b1 : (((rd_T32 l0 a1).f0) != 3) = false := bne_eq_false_iff_eq.mpr c32
            clear c32
            (first | rw [c32b0] | (simp only [i64_w, i32_w]; rw [c32b0]) | skip)
            by_cases c33 : ((rd_T32 l0 a1).f0) = 4
            ·rw [if_pos c33] at H
             have c33b0 : (((rd_T32 l0 a1).f0) == 4) = true := beq_iff_eq.mpr c33
             have c33b1 : (((rd_T32 l0 a1).f0) != 4) = false := bne_eq_false_iff_eq.mpr c33
             clear c33
             by_cases c34 : ((rd_T32 l0 a1).f0) = 1
             ·rw [if_pos c34] at H
              have c34b0 : (((rd_T32 l0 a1).f0) == 1) = true := beq_iff_eq.mpr c34
              have c34b1 : (((rd_T32 l0 a1).f0) != 1) = false := bne_eq_false_iff_eq.mpr c34
              clear c34
              have H' := Aside0.mk H
              clear H
              obtain ⟨hcz35_0, hcz35_1, hcz35_2, hcz35_3, hcz35_4, hcz35_5, hfz35_0, hfz35_1, hfz35_2, hfz35_3, hfz35_4, hfz35_5⟩ := cells6 BK125.out
              go_wp2
              repeat (go_quiet (fail); try go_wp2)
              go_meet
              case rel => exact ⟨_, ((((rd_T32 l0 a1).f3) != 0)), (by first | rfl | (simp; done) | (simp [*]; done)), H', ⟨by have := HJ4.out; have := HJ11.out; have := HJ17.out; first | omega | exact Nat.le_refl _⟩, ⟨by (with_reducible repeat (first | refine blk_drewN ?_ _ | refine blk_drew ?_ | refine blk_alloc ?_ _)); exact BK125.out⟩, ⟨by repeat (first | (with_reducible first | exact HB.out | apply below_alloc | apply pw_below_drewN | apply below_drew1 | refine below_set ?_ GE125.out) | exact HB.out)⟩⟩
             ·rw [if_neg c34] at H
              have c34b0 : (((rd_T32 l0 a1).f0) == 1) = false := beq_eq_false_iff_ne.mpr c34
              have c34b1 : (((rd_T32 l0 a1).f0) != 1) = true := bne_iff_ne.mpr c34
              have H' := Aside0.mk H
              clear H
              obtain ⟨hcz36_0, hcz36_1, hcz36_2, hcz36_3, hcz36_4, hcz36_5, hfz36_0, hfz36_1, hfz36_2, hfz36_3, hfz36_4, hfz36_5⟩ := cells6 BK125.out
              go_wp2
              repeat (go_quiet (fail); try go_wp2)
              go_meet
              case rel => exact ⟨_, ((((rd_T32 l0 a1).f3) != 0)), (by first | rfl | (simp; done) | (simp [*]; done)), H', ⟨by have := HJ4.out; have := HJ11.out; have := HJ17.out; first | omega | exact Nat.le_refl _⟩, ⟨by (with_reducible repeat (first | refine blk_drewN ?_ _ | refine blk_drew ?_ | refine blk_alloc ?_ _)); exact BK125.out⟩, ⟨by repeat (first | (with_reducible first | exact HB.out | apply below_alloc | apply pw_below_drewN | apply below_drew1 | refine below_set ?_ GE125.out) | exact HB.out)⟩⟩
            ·rw [if_neg c33] at H
             have c33b0 : (((rd_T32 l0 a1).f0) == 4) = false := beq_eq_false_iff_ne.mpr c33
             have c33b1 : (((rd_T32 l0 a1).f0) != 4) = true := bne_iff_ne.mpr c33
             by_cases c37 : (((rd_T32 l0 a1).f5).length : Int) > 0
             ·rw [if_pos c37] at H
              have c37b0 : decide (0 < (((rd_T32 l0 a1).f5).length : Int)) = true := decide_eq_true c37
              have c37b1 : decide (0 < ((rd_T32 l0 a1).f5).length) = true := decide_eq_true (by omega)
              clear c37
              have H' := Aside0.mk H
              clear H
              obtain ⟨hcz38_0, hcz38_1, hcz38_2, hcz38_3, hcz38_4, hcz38_5, hfz38_0, hfz38_1, hfz38_2, hfz38_3, hfz38_4, hfz38_5⟩ := cells6 BK125.out
              go_wp2
              repeat (go_quiet (fail); try go_wp2)
              go_meet
              case rel => exact ⟨_, (true), (by first | rfl | (simp; done) | (simp [*]; done)), H', ⟨by have := HJ4.out; have := HJ11.out; have := HJ17.out; first | omega | exact Nat.le_refl _⟩, ⟨by (with_reducible repeat (first | refine blk_drewN ?_ _ | refine blk_drew ?_ | refine blk_alloc ?_ _)); exact BK125.out⟩, ⟨by repeat (first | (with_reducible first | exact HB.out | apply below_alloc | apply pw_below_drewN | apply below_drew1 | refine below_set ?_ GE125.out) | exact HB.out)⟩⟩
             ·rw [if_neg c37] at H
              have c37b0 : decide (0 < (((rd_T32 l0 a1).f5).length : Int)) = false := decide_eq_false c37
              have c37b1 : decide (0 < ((rd_T32 l0 a1).f5).length) = false := decide_eq_false (by omega)
              clear c37
              by_cases c39 : ((rd_T32 l0 a1).f0) = 1
              ·rw [if_pos c39] at H
               have c39b0 : (((rd_T32 l0 a1).f0) == 1) = true := beq_iff_eq.mpr c39
               have c39b1 : (((rd_T32 l0 a1).f0) != 1) = false := bne_eq_false_iff_eq.mpr c39
               clear c39
               have H' := Aside0.mk H
               clear H
               obtain ⟨hcz40_0, hcz40_1, hcz40_2, hcz40_3, hcz40_4, hcz40_5, hfz40_0, hfz40_1, hfz40_2, hfz40_3, hfz40_4, hfz40_5⟩ := cells6 BK125.out
               go_wp2
               repeat (go_quiet (fail); try go_wp2)
               go_meet
               case rel => exact ⟨_, ((((rd_T32 l0 a1).f3) != 0)), (by first | rfl | (simp; done) | (simp [*]; done)), H', ⟨by have := HJ4.out; have := HJ11.out; have := HJ17.out; first | omega | exact Nat.le_refl _⟩, ⟨by (with_reducible repeat (first | refine blk_drewN ?_ _ | refine blk_drew ?_ | refine blk_alloc ?_ _)); exact BK125.out⟩, ⟨by repeat (first | (with_reducible first | exact HB.out | apply below_alloc | apply pw_below_drewN | apply below_drew1 | refine below_set ?_ GE125.out) | exact HB.out)⟩⟩
              ·rw [if_neg c39] at H
               have c39b0 : (((rd_T32 l0 a1).f0) == 1) = false := beq_eq_false_iff_ne.mpr c39
               have c39b1 : (((rd_T32 l0 a1).f0) != 1) = true := bne_iff_ne.mpr c39
               have H' := Aside0.mk H
               clear H
               obtain ⟨hcz41_0, hcz41_1, hcz41_2, hcz41_3, hcz41_4, hcz41_5, hfz41_0, hfz41_1, hfz41_2, hfz41_3, hfz41_4, hfz41_5⟩ := cells6 BK125.out
               go_wp2
               repeat (go_quiet (fail); try go_wp2)
               go_meet
               case rel => exact ⟨_, (false), (by first | rfl | (simp; done) | (simp [*]; done)), H', ⟨by have := HJ4.out; have := HJ11.out; have := HJ17.out; first | omega | exact Nat.le_refl _⟩, ⟨by (with_reducible repeat (first | refine blk_drewN ?_ _ | refine blk_drew ?_ | refine blk_alloc ?_ _)); exact BK125.out⟩, ⟨by repeat (first | (with_reducible first | exact HB.out | apply below_alloc | apply pw_below_drewN | apply below_drew1 | refine below_set ?_ GE125.out) | exact HB.out)⟩⟩
           ·rw [if_neg c32] at H
            have c32b0 : (((rd_T32 l0 a1).f0) == 3) = false := beq_eq_false_iff_ne.mpr c32
            have c32b1 : (((rd_T32 l0 a1).f0) != 3) = true := bne_iff_ne.mpr c32
            (first | rw [c32b0] | (simp only [i64_w, i32_w]; rw [c32b0]) | skip)
            by_cases c42 : ((rd_T32 l0 a1).f4) = 0
            ·rw [if_pos c42] at H
             have c42b0 : (((rd_T32 l0 a1).f4) == 0) = true := beq_iff_eq.mpr c42
             have c42b1 : (((rd_T32 l0 a1).f4) != 0) = false := bne_eq_false_iff_eq.mpr c42
             clear c42
             by_cases c43 : ((rd_T32 l0 a1).f0) = 4
             ·rw [if_pos c43] at H
              have c43b0 : (((rd_T32 l0 a1).f0) == 4) = true := beq_iff_eq.mpr c43
              have c43b1 : (((rd_T32 l0 a1).f0) != 4) = false := bne_eq_false_iff_eq.mpr c43
              clear c43
              by_cases c44 : ((rd_T32 l0 a1).f0) = 1
              ·rw [if_pos c44] at H
               have c44b0 : (((rd_T32 l0 a1).f0) == 1) = true := beq_iff_eq.mpr c44
               have c44b1 : (((rd_T32 l0 a1).f0) != 1) = false := bne_eq_false_iff_eq.mpr c44
               clear c44
               have H' := Aside0.mk H
               clear H
               obtain ⟨hcz45_0, hcz45_1, hcz45_2, hcz45_3, hcz45_4, hcz45_5, hfz45_0, hfz45_1, hfz45_2, hfz45_3, hfz45_4, hfz45_5⟩ := cells6 BK125.out
               go_wp2
               repeat (go_quiet (fail); try go_wp2)
               go_meet
               case rel => exact ⟨_, ((((rd_T32 l0 a1).f3) != 0)), (by first | rfl | (simp; done) | (simp [*]; done)), H', ⟨by have := HJ4.out; have := HJ11.out; have := HJ17.out; first | omega | exact Nat.le_refl _⟩, ⟨by (with_reducible repeat (first | refine blk_drewN ?_ _ | refine blk_drew ?_ | refine blk_alloc ?_ _)); exact BK125.out⟩, ⟨by repeat (first | (with_reducible first | exact HB.out | apply below_alloc | apply pw_below_drewN | apply below_drew1 | refine below_set ?_ GE125.out) | exact HB.out)⟩⟩
              ·rw [if_neg c44] at H
               have c44b0 : (((rd_T32 l0 a1).f0) == 1) = false := beq_eq_false_iff_ne.mpr c44
               have c44b1 : (((rd_T32 l0 a1).f0) != 1) = true := bne_iff_ne.mpr c44
               have H' := Aside0.mk H
               clear H
               obtain ⟨hcz46_0, hcz46_1, hcz46_2, hcz46_3, hcz46_4, hcz46_5, hfz46_0, hfz46_1, hfz46_2, hfz46_3, hfz46_4, hfz46_5⟩ := cells6 BK125.out
               go_wp2
               repeat (go_quiet (fail); try go_wp2)
               go_meet
               case rel => exact ⟨_, ((((rd_T32 l0 a1).f3) != 0)), (by first | rfl | (simp; done) | (simp [*]; done)), H', ⟨by have := HJ4.out; have := HJ11.out; have := HJ17.out; first | omega | exact Nat.le_refl _⟩, ⟨by (with_reducible repeat (first | refine blk_drewN ?_ _ | refine blk_drew ?_ | refine blk_alloc ?_ _)); exact BK125.out⟩, ⟨by repeat (first | (with_reducible first | exact HB.out | apply below_alloc | apply pw_below_drewN | apply below_drew1 | refine below_set ?_ GE125.out) | exact HB.out)⟩⟩
             ·rw [if_neg c43] at H
              have c43b0 : (((rd_T32 l0 a1).f0) == 4) = false := beq_eq_false_iff_ne.mpr c43
              have c43b1 : (((rd_T32 l0 a1).f0) != 4) = true := bne_iff_ne.mpr c43
              by_cases c47 : (((rd_T32 l0 a1).f5).length : Int) > 0
              ·rw [if_pos c47] at H
               have c47b0 : decide (0 < (((rd_T32 l0 a1).f5).length : Int)) = true := decide_eq_true c47
               have c47b1 : decide (0 < ((rd_T32 l0 a1).f5).length) = true := decide_eq_true (by omega)
               clear c47
               have H' := Aside0.mk H
               clear H
               obtain ⟨hcz48_0, hcz48_1, hcz48_2, hcz48_3, hcz48_4, hcz48_5, hfz48_0, hfz48_1, hfz48_2, hfz48_3, hfz48_4, hfz48_5⟩ := cells6 BK125.out
               go_wp2
               repeat (go_quiet (fail); try go_wp2)
               go_meet
               case rel => exact ⟨_, (true), (by first | rfl | (simp; done) | (simp [*]; done)), H', ⟨by have := HJ4.out; have := HJ11.out; have := HJ17.out; first | omega | exact Nat.le_refl _⟩, ⟨by (with_reducible repeat (first | refine blk_drewN ?_ _ | refine blk_drew ?_ | refine blk_alloc ?_ _)); exact BK125.out⟩, ⟨by repeat (first | (with_reducible first | exact HB.out | apply below_alloc | apply pw_below_drewN | apply below_drew1 | refine below_set ?_ GE125.out) | exact HB.out)⟩⟩
              ·rw [if_neg c47] at H
               have c47b0 : decide (0 < (((rd_T32 l0 a1).f5).length : Int)) = false := decide_eq_false c47
               have c47b1 : decide (0 < ((rd_T32 l0 a1).f5).length) = false := decide_eq_false (by omega)
               clear c47
               by_cases c49 : ((rd_T32 l0 a1).f0) = 1
               ·rw [if_pos c49] at H
                have c49b0 : (((rd_T32 l0 a1).f0) == 1) = true := beq_iff_eq.mpr c49
                have c49b1 : (((rd_T32 l0 a1).f0) != 1) = false := bne_eq_false_iff_eq.mpr c49
                clear c49
                have H' := Aside0.mk H
                clear H
                obtain ⟨hcz50_0, hcz50_1, hcz50_2, hcz50_3, hcz50_4, hcz50_5, hfz50_0, hfz50_1, hfz50_2, hfz50_3, hfz50_4, hfz50_5⟩ := cells6 BK125.out
                go_wp2
                repeat (go_quiet (fail); try go_wp2)
                go_meet
                case rel => exact ⟨_, ((((rd_T32 l0 a1).f3) != 0)), (by first | rfl | (simp; done) | (simp [*]; done)), H', ⟨by have := HJ4.out; have := HJ11.out; have := HJ17.out; first | omega | exact Nat.le_refl _⟩, ⟨by (with_reducible repeat (first | refine blk_drewN ?_ _ | refine blk_drew ?_ | refine blk_alloc ?_ _)); exact BK125.out⟩, ⟨by repeat (first | (with_reducible first | exact HB.out | apply below_alloc | apply pw_below_drewN | apply below_drew1 | refine below_set ?_ GE125.out) | exact HB.out)⟩⟩
               ·rw [if_neg c49] at H
                have c49b0 : (((rd_T32 l0 a1).f0) == 1) = false := beq_eq_false_iff_ne.mpr c49
                have c49b1 : (((rd_T32 l0 a1).f0) != 1) = true := bne_iff_ne.mpr c49
                have H' := Aside0.mk H
                clear H
                obtain ⟨hcz51_0, hcz51_1, hcz51_2, hcz51_3, hcz51_4, hcz51_5, hfz51_0, hfz51_1, hfz51_2, hfz51_3, hfz51_4, hfz51_5⟩ := cells6 BK125.out
                go_wp2
                repeat (go_quiet (fail); try go_wp2)
                go_meet
                case rel => exact ⟨_, (false), (by first | rfl | (simp; done) | (simp [*]; done)), H', ⟨by have := HJ4.out; have := HJ11.out; have := HJ17.out; first | omega | exact Nat.le_refl _⟩, ⟨by (with_reducible repeat (first | refine blk_drewN ?_ _ | refine blk_drew ?_ | refine blk_alloc ?_ _)); exact BK125.out⟩, ⟨by repeat (first | (with_reducible first | exact HB.out | apply below_alloc | apply pw_below_drewN | apply below_drew1 | refine below_set ?_ GE125.out) | exact HB.out)⟩⟩
            ·rw [if_neg c42] at H
             have c42b0 : (((rd_T32 l0 a1).f4) == 0) = false := beq_eq_false_iff_ne.mpr c42
             have c42b1 : (((rd_T32 l0 a1).f4) != 0) = true := bne_iff_ne.mpr c42
             have H' := Aside0.mk H
             clear H
             obtain ⟨hcz52_0, hcz52_1, hcz52_2, hcz52_3, hcz52_4, hcz52_5, hfz52_0, hfz52_1, hfz52_2, hfz52_3, hfz52_4, hfz52_5⟩ := cells6 BK125.out
             go_wp2
             repeat (go_quiet (fail); try go_wp2)
             go_meet
             case rel => exact ⟨_, (true), (by first | rfl | (simp; done) | (simp [*]; done)), H', ⟨by have := HJ4.out; have := HJ11.out; have := HJ17.out; first | omega | exact Nat.le_refl _⟩, ⟨by (with_reducible repeat (first | refine blk_drewN ?_ _ | refine blk_drew ?_ | refine blk_alloc ?_ _)); exact BK125.out⟩, ⟨by repeat (first | (with_reducible first | exact HB.out | apply below_alloc | apply pw_below_drewN | apply below_drew1 | refine below_set ?_ GE125.out) | exact HB.out)⟩⟩
          case rest =>
           as_aux_lemma =>
           clear HC31
           try clear c3; try clear c3b0; try clear c4; try clear c4b0; try clear c11; try clear c17; try clear c30; try clear hcz7_0; try clear hcz7_1; try clear hcz7_2; try clear hcz7_3; try clear hcz7_4; try clear hcz7_5; try clear hfz7_0; try clear hfz7_1; try clear hfz7_2; try clear hfz7_3; try clear hfz7_4; try clear hfz7_5; try clear hx124_0; try clear hx124_1; try clear hx124_2; try clear hx124_3; try clear hx124_4; try clear hx124_5; try clear p124; try clear q124
           obtain ⟨kq, x62_30, rfl, HA, HJ30, BK125, HB⟩ := hcut
           cases kq with
           | zero => exact absurd HA.out (by simp [records_check.j3])
           | succ kj30 =>
            have H := HA.out
            clear HA
            simp only [records_check.j3] at H
            by_cases c53 : x62_30 = true
            ·subst c53
             have H1 : (some 5) = some r := by rw [if_pos rfl] at H; exact H
             replace H := H1; clear H1
             obtain rfl := Option.some.inj H
             go_wp2
             repeat (go_quiet (fail); try go_wp2)
             go_ret
             exact ⟨by first | rfl | (simp [errW_none, errW_some] <;> rfl) | (simp [*, errW_none, errW_some] <;> rfl), by repeat (first | (with_reducible first | exact HB.out | apply below_alloc | apply pw_below_drewN | apply below_drew1 | refine below_set ?_ GE125.out) | exact HB.out)⟩
            ·replace c53 := Bool.eq_false_iff.mpr c53
             subst c53
             have H1 : (if ((rd_T32 l0 a1).f0) = 1 then (if ((rd_T32 l0 a1).f2) = 1 then (if ((rd_T32 l0 a1).f0) = 2 then (records_check.j4 kj30 l0 a1 (((rd_T32 l0 a1).f2) != 4) ((rd_T32 l0 a1).f0) ((rd_T32 l0 a1).f1) ((rd_T32 l0 a1).f2) ((rd_T32 l0 a1).f3) ((rd_T32 l0 a1).f4) ((rd_T32 l0 a1).f5)) else (records_check.j4 kj30 l0 a1 false ((rd_T32 l0 a1).f0) ((rd_T32 l0 a1).f1) ((rd_T32 l0 a1).f2) ((rd_T32 l0 a1).f3) ((rd_T32 l0 a1).f4) ((rd_T32 l0 a1).f5))) else (if ((rd_T32 l0 a1).f2) = 4 then (if ((rd_T32 l0 a1).f0) = 2 then (records_check.j4 kj30 l0 a1 (((rd_T32 l0 a1).f2) != 4) ((rd_T32 l0 a1).f0) ((rd_T32 l0 a1).f1) ((rd_T32 l0 a1).f2) ((rd_T32 l0 a1).f3) ((rd_T32 l0 a1).f4) ((rd_T32 l0 a1).f5)) else (records_check.j4 kj30 l0 a1 false ((rd_T32 l0 a1).f0) ((rd_T32 l0 a1).f1) ((rd_T32 l0 a1).f2) ((rd_T32 l0 a1).f3) ((rd_T32 l0 a1).f4) ((rd_T32 l0 a1).f5))) else (records_check.j4 kj30 l0 a1 true ((rd_T32 l0 a1).f0) ((rd_T32 l0 a1).f1) ((rd_T32 l0 a1).f2) ((rd_T32 l0 a1).f3) ((rd_T32 l0 a1).f4) ((rd_T32 l0 a1).f5)))) else (if ((rd_T32 l0 a1).f0) = 2 then (records_check.j4 kj30 l0 a1 (((rd_T32 l0 a1).f2) != 4) ((rd_T32 l0 a1).f0) ((rd_T32 l0 a1).f1) ((rd_T32 l0 a1).f2) ((rd_T32 l0 a1).f3) ((rd_T32 l0 a1).f4) ((rd_T32 l0 a1).f5)) else (records_check.j4 kj30 l0 a1 false ((rd_T32 l0 a1).f0) ((rd_T32 l0 a1).f1) ((rd_T32 l0 a1).f2) ((rd_T32 l0 a1).f3) ((rd_T32 l0 a1).f4) ((rd_T32 l0 a1).f5)))) = some r := by rw [if_neg (show ¬ (false = true) by decide)] at H; exact H
             replace H := H1; clear H1
             have HC54 := Aside0.mk H
             clear H
             go_upto_region 10 with (fail)
             repeat (go_quiet (fail); go_upto_region 10 with (fail))
             go_cut [97] (fun v97 wc => ∃ (kq : Nat) (x97_53 : Bool), v97 = .bool x97_53 ∧ Aside0 (records_check.j4 kq l0 a1 x97_53 ((rd_T32 l0 a1).f0) ((rd_T32 l0 a1).f1) ((rd_T32 l0 a1).f2) ((rd_T32 l0 a1).f3) ((rd_T32 l0 a1).f4) ((rd_T32 l0 a1).f5) = some r) ∧ Aside0 (kq ≤ kj30) ∧ Aside0 (wc.heap[gb125]? = some (.cells #[.int .i64 ((rd_T32 l0 a1).f0), .string ((rd_T32 l0 a1).f1), .int .i64 ((rd_T32 l0 a1).f2), .int .i64 ((rd_T32 l0 a1).f3), .int .i64 ((rd_T32 l0 a1).f4), (.slice A124_5 ((rd_T32 l0 a1).f5).length c124_5)] 32 (0, 0))) ∧ Aside0 (Below w.heap.size w wc))
             case first =>
              have H := HC54.out
              clear HC54
              by_cases c55 : ((rd_T32 l0 a1).f0) = 1
              ·rw [if_pos c55] at H
               have c55b0 : (((rd_T32 l0 a1).f0) == 1) = true := beq_iff_eq.mpr c55
               have c55b1 : (((rd_T32 l0 a1).f0) != 1) = false := bne_eq_false_iff_eq.mpr c55
               clear c55
               (first | rw [c55b0] | (simp only [i64_w, i32_w]; rw [c55b0]) | skip)
               by_cases c56 : ((rd_T32 l0 a1).f2) = 1
               ·rw [if_pos c56] at H
                have c56b0 : (((rd_T32 l0 a1).f2) == 1) = true := beq_iff_eq.mpr c56
                have c56b1 : (((rd_T32 l0 a1).f2) != 1) = false := bne_eq_false_iff_eq.mpr c56
                clear c56
                by_cases c57 : ((rd_T32 l0 a1).f0) = 2
                ·rw [if_pos c57] at H
                 have c57b0 : (((rd_T32 l0 a1).f0) == 2) = true := beq_iff_eq.mpr c57
                 have c57b1 : (((rd_T32 l0 a1).f0) != 2) = false := bne_eq_false_iff_eq.mpr c57
                 clear c57
                 have H' := Aside0.mk H
                 clear H
                 obtain ⟨hcz58_0, hcz58_1, hcz58_2, hcz58_3, hcz58_4, hcz58_5, hfz58_0, hfz58_1, hfz58_2, hfz58_3, hfz58_4, hfz58_5⟩ := cells6 BK125.out
                 go_wp2
                 repeat (go_quiet (fail); try go_wp2)
                 go_meet
                 case rel => exact ⟨_, ((((rd_T32 l0 a1).f2) != 4)), (by first | rfl | (simp; done) | (simp [*]; done)), H', ⟨by have := HJ4.out; have := HJ11.out; have := HJ17.out; have := HJ30.out; first | omega | exact Nat.le_refl _⟩, ⟨by (with_reducible repeat (first | refine blk_drewN ?_ _ | refine blk_drew ?_ | refine blk_alloc ?_ _)); exact BK125.out⟩, ⟨by repeat (first | (with_reducible first | exact HB.out | apply below_alloc | apply pw_below_drewN | apply below_drew1 | refine below_set ?_ GE125.out) | exact HB.out)⟩⟩
                ·rw [if_neg c57] at H
                 have c57b0 : (((rd_T32 l0 a1).f0) == 2) = false := beq_eq_false_iff_ne.mpr c57
                 have c57b1 : (((rd_T32 l0 a1).f0) != 2) = true := bne_iff_ne.mpr c57
                 have H' := Aside0.mk H
                 clear H
                 obtain ⟨hcz59_0, hcz59_1, hcz59_2, hcz59_3, hcz59_4, hcz59_5, hfz59_0, hfz59_1, hfz59_2, hfz59_3, hfz59_4, hfz59_5⟩ := cells6 BK125.out
                 go_wp2
                 repeat (go_quiet (fail); try go_wp2)
                 go_meet
                 case rel => exact ⟨_, (false), (by first | rfl | (simp; done) | (simp [*]; done)), H', ⟨by have := HJ4.out; have := HJ11.out; have := HJ17.out; have := HJ30.out; first | omega | exact Nat.le_refl _⟩, ⟨by (with_reducible repeat (first | refine blk_drewN ?_ _ | refine blk_drew ?_ | refine blk_alloc ?_ _)); exact BK125.out⟩, ⟨by repeat (first | (with_reducible first | exact HB.out | apply below_alloc | apply pw_below_drewN | apply below_drew1 | refine below_set ?_ GE125.out) | exact HB.out)⟩⟩
               ·rw [if_neg c56] at H
                have c56b0 : (((rd_T32 l0 a1).f2) == 1) = false := beq_eq_false_iff_ne.mpr c56
                have c56b1 : (((rd_T32 l0 a1).f2) != 1) = true := bne_iff_ne.mpr c56
                by_cases c60 : ((rd_T32 l0 a1).f2) = 4
                ·rw [if_pos c60] at H
                 have c60b0 : (((rd_T32 l0 a1).f2) == 4) = true := beq_iff_eq.mpr c60
                 have c60b1 : (((rd_T32 l0 a1).f2) != 4) = false := bne_eq_false_iff_eq.mpr c60
                 clear c60
                 by_cases c61 : ((rd_T32 l0 a1).f0) = 2
                 ·rw [if_pos c61] at H
                  have c61b0 : (((rd_T32 l0 a1).f0) == 2) = true := beq_iff_eq.mpr c61
                  have c61b1 : (((rd_T32 l0 a1).f0) != 2) = false := bne_eq_false_iff_eq.mpr c61
                  clear c61
                  have H' := Aside0.mk H
                  clear H
                  obtain ⟨hcz62_0, hcz62_1, hcz62_2, hcz62_3, hcz62_4, hcz62_5, hfz62_0, hfz62_1, hfz62_2, hfz62_3, hfz62_4, hfz62_5⟩ := cells6 BK125.out
                  go_wp2
                  repeat (go_quiet (fail); try go_wp2)
                  go_meet
                  case rel => exact ⟨_, ((((rd_T32 l0 a1).f2) != 4)), (by first | rfl | (simp; done) | (simp [*]; done)), H', ⟨by have := HJ4.out; have := HJ11.out; have := HJ17.out; have := HJ30.out; first | omega | exact Nat.le_refl _⟩, ⟨by (with_reducible repeat (first | refine blk_drewN ?_ _ | refine blk_drew ?_ | refine blk_alloc ?_ _)); exact BK125.out⟩, ⟨by repeat (first | (with_reducible first | exact HB.out | apply below_alloc | apply pw_below_drewN | apply below_drew1 | refine below_set ?_ GE125.out) | exact HB.out)⟩⟩
                 ·rw [if_neg c61] at H
                  have c61b0 : (((rd_T32 l0 a1).f0) == 2) = false := beq_eq_false_iff_ne.mpr c61
                  have c61b1 : (((rd_T32 l0 a1).f0) != 2) = true := bne_iff_ne.mpr c61
                  have H' := Aside0.mk H
                  clear H
                  obtain ⟨hcz63_0, hcz63_1, hcz63_2, hcz63_3, hcz63_4, hcz63_5, hfz63_0, hfz63_1, hfz63_2, hfz63_3, hfz63_4, hfz63_5⟩ := cells6 BK125.out
                  go_wp2
                  repeat (go_quiet (fail); try go_wp2)
                  go_meet
                  case rel => exact ⟨_, (false), (by first | rfl | (simp; done) | (simp [*]; done)), H', ⟨by have := HJ4.out; have := HJ11.out; have := HJ17.out; have := HJ30.out; first | omega | exact Nat.le_refl _⟩, ⟨by (with_reducible repeat (first | refine blk_drewN ?_ _ | refine blk_drew ?_ | refine blk_alloc ?_ _)); exact BK125.out⟩, ⟨by repeat (first | (with_reducible first | exact HB.out | apply below_alloc | apply pw_below_drewN | apply below_drew1 | refine below_set ?_ GE125.out) | exact HB.out)⟩⟩
                ·rw [if_neg c60] at H
                 have c60b0 : (((rd_T32 l0 a1).f2) == 4) = false := beq_eq_false_iff_ne.mpr c60
                 have c60b1 : (((rd_T32 l0 a1).f2) != 4) = true := bne_iff_ne.mpr c60
                 have H' := Aside0.mk H
                 clear H
                 obtain ⟨hcz64_0, hcz64_1, hcz64_2, hcz64_3, hcz64_4, hcz64_5, hfz64_0, hfz64_1, hfz64_2, hfz64_3, hfz64_4, hfz64_5⟩ := cells6 BK125.out
                 go_wp2
                 repeat (go_quiet (fail); try go_wp2)
                 go_meet
                 case rel => exact ⟨_, (true), (by first | rfl | (simp; done) | (simp [*]; done)), H', ⟨by have := HJ4.out; have := HJ11.out; have := HJ17.out; have := HJ30.out; first | omega | exact Nat.le_refl _⟩, ⟨by (with_reducible repeat (first | refine blk_drewN ?_ _ | refine blk_drew ?_ | refine blk_alloc ?_ _)); exact BK125.out⟩, ⟨by repeat (first | (with_reducible first | exact HB.out | apply below_alloc | apply pw_below_drewN | apply below_drew1 | refine below_set ?_ GE125.out) | exact HB.out)⟩⟩
              ·rw [if_neg c55] at H
               have c55b0 : (((rd_T32 l0 a1).f0) == 1) = false := beq_eq_false_iff_ne.mpr c55
               have c55b1 : (((rd_T32 l0 a1).f0) != 1) = true := bne_iff_ne.mpr c55
               (first | rw [c55b0] | (simp only [i64_w, i32_w]; rw [c55b0]) | skip)
               by_cases c65 : ((rd_T32 l0 a1).f0) = 2
               ·rw [if_pos c65] at H
                have c65b0 : (((rd_T32 l0 a1).f0) == 2) = true := beq_iff_eq.mpr c65
                have c65b1 : (((rd_T32 l0 a1).f0) != 2) = false := bne_eq_false_iff_eq.mpr c65
                clear c65
                have H' := Aside0.mk H
                clear H
                obtain ⟨hcz66_0, hcz66_1, hcz66_2, hcz66_3, hcz66_4, hcz66_5, hfz66_0, hfz66_1, hfz66_2, hfz66_3, hfz66_4, hfz66_5⟩ := cells6 BK125.out
                go_wp2
                repeat (go_quiet (fail); try go_wp2)
                go_meet
                case rel => exact ⟨_, ((((rd_T32 l0 a1).f2) != 4)), (by first | rfl | (simp; done) | (simp [*]; done)), H', ⟨by have := HJ4.out; have := HJ11.out; have := HJ17.out; have := HJ30.out; first | omega | exact Nat.le_refl _⟩, ⟨by (with_reducible repeat (first | refine blk_drewN ?_ _ | refine blk_drew ?_ | refine blk_alloc ?_ _)); exact BK125.out⟩, ⟨by repeat (first | (with_reducible first | exact HB.out | apply below_alloc | apply pw_below_drewN | apply below_drew1 | refine below_set ?_ GE125.out) | exact HB.out)⟩⟩
               ·rw [if_neg c65] at H
                have c65b0 : (((rd_T32 l0 a1).f0) == 2) = false := beq_eq_false_iff_ne.mpr c65
                have c65b1 : (((rd_T32 l0 a1).f0) != 2) = true := bne_iff_ne.mpr c65
                have H' := Aside0.mk H
                clear H
                obtain ⟨hcz67_0, hcz67_1, hcz67_2, hcz67_3, hcz67_4, hcz67_5, hfz67_0, hfz67_1, hfz67_2, hfz67_3, hfz67_4, hfz67_5⟩ := cells6 BK125.out
                go_wp2
                repeat (go_quiet (fail); try go_wp2)
                go_meet
                case rel => exact ⟨_, (false), (by first | rfl | (simp; done) | (simp [*]; done)), H', ⟨by have := HJ4.out; have := HJ11.out; have := HJ17.out; have := HJ30.out; first | omega | exact Nat.le_refl _⟩, ⟨by (with_reducible repeat (first | refine blk_drewN ?_ _ | refine blk_drew ?_ | refine blk_alloc ?_ _)); exact BK125.out⟩, ⟨by repeat (first | (with_reducible first | exact HB.out | apply below_alloc | apply pw_below_drewN | apply below_drew1 | refine below_set ?_ GE125.out) | exact HB.out)⟩⟩
             case rest =>
              as_aux_lemma =>
              clear HC54
              try clear c3; try clear c3b0; try clear c4; try clear c4b0; try clear c11; try clear c17; try clear c30; try clear c53; try clear hcz7_0; try clear hcz7_1; try clear hcz7_2; try clear hcz7_3; try clear hcz7_4; try clear hcz7_5; try clear hfz7_0; try clear hfz7_1; try clear hfz7_2; try clear hfz7_3; try clear hfz7_4; try clear hfz7_5; try clear hx124_0; try clear hx124_1; try clear hx124_2; try clear hx124_3; try clear hx124_4; try clear hx124_5; try clear p124; try clear q124
              obtain ⟨kq, x97_53, rfl, HA, HJ53, BK125, HB⟩ := hcut
              cases kq with
              | zero => exact absurd HA.out (by simp [records_check.j4])
              | succ kj53 =>
               have H := HA.out
               clear HA
               simp only [records_check.j4] at H
               by_cases c68 : x97_53 = true
               ·subst c68
                have H1 : (some 9) = some r := by rw [if_pos rfl] at H; exact H
                replace H := H1; clear H1
                obtain rfl := Option.some.inj H
                go_wp2
                repeat (go_quiet (fail); try go_wp2)
                go_ret
                exact ⟨by first | rfl | (simp [errW_none, errW_some] <;> rfl) | (simp [*, errW_none, errW_some] <;> rfl), by repeat (first | (with_reducible first | exact HB.out | apply below_alloc | apply pw_below_drewN | apply below_drew1 | refine below_set ?_ GE125.out) | exact HB.out)⟩
               ·replace c68 := Bool.eq_false_iff.mpr c68
                subst c68
                have H1 : (if ((rd_T32 l0 a1).f0) = 3 then (records_check.j5 kj53 l0 a1 (decide (((rd_T32 l0 a1).f3) ≥ a1)) ((rd_T32 l0 a1).f0) ((rd_T32 l0 a1).f1) ((rd_T32 l0 a1).f2) ((rd_T32 l0 a1).f3) ((rd_T32 l0 a1).f4) ((rd_T32 l0 a1).f5)) else (records_check.j5 kj53 l0 a1 false ((rd_T32 l0 a1).f0) ((rd_T32 l0 a1).f1) ((rd_T32 l0 a1).f2) ((rd_T32 l0 a1).f3) ((rd_T32 l0 a1).f4) ((rd_T32 l0 a1).f5))) = some r := by rw [if_neg (show ¬ (false = true) by decide)] at H; exact H
                replace H := H1; clear H1
                have HC69 := Aside0.mk H
                clear H
                go_upto_region 12 with (fail)
                repeat (go_quiet (fail); go_upto_region 12 with (fail))
                go_cut [121] (fun v121 wc => ∃ (kq : Nat) (x121_68 : Bool), v121 = .bool x121_68 ∧ Aside0 (records_check.j5 kq l0 a1 x121_68 ((rd_T32 l0 a1).f0) ((rd_T32 l0 a1).f1) ((rd_T32 l0 a1).f2) ((rd_T32 l0 a1).f3) ((rd_T32 l0 a1).f4) ((rd_T32 l0 a1).f5) = some r) ∧ Aside0 (kq ≤ kj53) ∧ Aside0 (wc.heap[gb125]? = some (.cells #[.int .i64 ((rd_T32 l0 a1).f0), .string ((rd_T32 l0 a1).f1), .int .i64 ((rd_T32 l0 a1).f2), .int .i64 ((rd_T32 l0 a1).f3), .int .i64 ((rd_T32 l0 a1).f4), (.slice A124_5 ((rd_T32 l0 a1).f5).length c124_5)] 32 (0, 0))) ∧ Aside0 (Below w.heap.size w wc))
                case first =>
                 have H := HC69.out
                 clear HC69
                 by_cases c70 : ((rd_T32 l0 a1).f0) = 3
                 ·rw [if_pos c70] at H
                  have c70b0 : (((rd_T32 l0 a1).f0) == 3) = true := beq_iff_eq.mpr c70
                  have c70b1 : (((rd_T32 l0 a1).f0) != 3) = false := bne_eq_false_iff_eq.mpr c70
                  clear c70
                  (first | rw [c70b0] | (simp only [i64_w, i32_w]; rw [c70b0]) | skip)
                  have H' := Aside0.mk H
                  clear H
                  obtain ⟨hcz71_0, hcz71_1, hcz71_2, hcz71_3, hcz71_4, hcz71_5, hfz71_0, hfz71_1, hfz71_2, hfz71_3, hfz71_4, hfz71_5⟩ := cells6 BK125.out
                  go_wp2
                  repeat (go_quiet (fail); try go_wp2)
                  go_meet
                  case rel => exact ⟨_, (decide (((rd_T32 l0 a1).f3) ≥ a1)), (by first | rfl | (simp; done) | (simp [*]; done)), H', ⟨by have := HJ4.out; have := HJ11.out; have := HJ17.out; have := HJ30.out; have := HJ53.out; first | omega | exact Nat.le_refl _⟩, ⟨by (with_reducible repeat (first | refine blk_drewN ?_ _ | refine blk_drew ?_ | refine blk_alloc ?_ _)); exact BK125.out⟩, ⟨by repeat (first | (with_reducible first | exact HB.out | apply below_alloc | apply pw_below_drewN | apply below_drew1 | refine below_set ?_ GE125.out) | exact HB.out)⟩⟩
                 ·rw [if_neg c70] at H
                  have c70b0 : (((rd_T32 l0 a1).f0) == 3) = false := beq_eq_false_iff_ne.mpr c70
                  have c70b1 : (((rd_T32 l0 a1).f0) != 3) = true := bne_iff_ne.mpr c70
                  (first | rw [c70b0] | (simp only [i64_w, i32_w]; rw [c70b0]) | skip)
                  have H' := Aside0.mk H
                  clear H
                  obtain ⟨hcz72_0, hcz72_1, hcz72_2, hcz72_3, hcz72_4, hcz72_5, hfz72_0, hfz72_1, hfz72_2, hfz72_3, hfz72_4, hfz72_5⟩ := cells6 BK125.out
                  go_wp2
                  repeat (go_quiet (fail); try go_wp2)
                  go_meet
                  case rel => exact ⟨_, (false), (by first | rfl | (simp; done) | (simp [*]; done)), H', ⟨by have := HJ4.out; have := HJ11.out; have := HJ17.out; have := HJ30.out; have := HJ53.out; first | omega | exact Nat.le_refl _⟩, ⟨by (with_reducible repeat (first | refine blk_drewN ?_ _ | refine blk_drew ?_ | refine blk_alloc ?_ _)); exact BK125.out⟩, ⟨by repeat (first | (with_reducible first | exact HB.out | apply below_alloc | apply pw_below_drewN | apply below_drew1 | refine below_set ?_ GE125.out) | exact HB.out)⟩⟩
                case rest =>
                 as_aux_lemma =>
                 clear HC69
                 try clear c3; try clear c3b0; try clear c4; try clear c4b0; try clear c11; try clear c17; try clear c30; try clear c53; try clear c68; try clear hcz7_0; try clear hcz7_1; try clear hcz7_2; try clear hcz7_3; try clear hcz7_4; try clear hcz7_5; try clear hfz7_0; try clear hfz7_1; try clear hfz7_2; try clear hfz7_3; try clear hfz7_4; try clear hfz7_5; try clear hx124_0; try clear hx124_1; try clear hx124_2; try clear hx124_3; try clear hx124_4; try clear hx124_5; try clear p124; try clear q124
                 obtain ⟨kq, x121_68, rfl, HA, HJ68, BK125, HB⟩ := hcut
                 cases kq with
                 | zero => exact absurd HA.out (by simp [records_check.j5])
                 | succ kj68 =>
                  have H := HA.out
                  clear HA
                  simp only [records_check.j5] at H
                  by_cases c73 : x121_68 = true
                  ·subst c73
                   have H1 : (some 3) = some r := by rw [if_pos rfl] at H; exact H
                   replace H := H1; clear H1
                   obtain rfl := Option.some.inj H
                   go_wp2
                   repeat (go_quiet (fail); try go_wp2)
                   go_ret
                   exact ⟨by first | rfl | (simp [errW_none, errW_some] <;> rfl) | (simp [*, errW_none, errW_some] <;> rfl), by repeat (first | (with_reducible first | exact HB.out | apply below_alloc | apply pw_below_drewN | apply below_drew1 | refine below_set ?_ GE125.out) | exact HB.out)⟩
                  ·replace c73 := Bool.eq_false_iff.mpr c73
                   subst c73
                   have H1 : (if ((rd_T32 l0 a1).f0) = 3 then (if 0 ≤ ((rd_T32 l0 a1).f3) then (if ((rd_T32 l0 a1).f3) < (l0.length : Int) then (records_check.j6 kj68 l0 a1 (((rd_T32 l0 a1).f2) != (wrap64 (((rd_T32 l0 a1).f4) * ((rd_T32 l0 ((rd_T32 l0 a1).f3)).f2)))) ((rd_T32 l0 a1).f0) ((rd_T32 l0 a1).f1) ((rd_T32 l0 a1).f2) ((rd_T32 l0 a1).f3) ((rd_T32 l0 a1).f4) ((rd_T32 l0 a1).f5)) else (none)) else (none)) else (records_check.j6 kj68 l0 a1 false ((rd_T32 l0 a1).f0) ((rd_T32 l0 a1).f1) ((rd_T32 l0 a1).f2) ((rd_T32 l0 a1).f3) ((rd_T32 l0 a1).f4) ((rd_T32 l0 a1).f5))) = some r := by rw [if_neg (show ¬ (false = true) by decide)] at H; exact H
                   replace H := H1; clear H1
                   have HC74 := Aside0.mk H
                   clear H
                   go_upto_region 14 with (fail)
                   repeat (go_quiet (fail); go_upto_region 14 with (fail))
                   go_cut [131] (fun v131 wc => ∃ (kq : Nat) (x131_73 : Bool), v131 = .bool x131_73 ∧ Aside0 (records_check.j6 kq l0 a1 x131_73 ((rd_T32 l0 a1).f0) ((rd_T32 l0 a1).f1) ((rd_T32 l0 a1).f2) ((rd_T32 l0 a1).f3) ((rd_T32 l0 a1).f4) ((rd_T32 l0 a1).f5) = some r) ∧ Aside0 (kq ≤ kj68) ∧ Aside0 (wc.heap[gb125]? = some (.cells #[.int .i64 ((rd_T32 l0 a1).f0), .string ((rd_T32 l0 a1).f1), .int .i64 ((rd_T32 l0 a1).f2), .int .i64 ((rd_T32 l0 a1).f3), .int .i64 ((rd_T32 l0 a1).f4), (.slice A124_5 ((rd_T32 l0 a1).f5).length c124_5)] 32 (0, 0))) ∧ Aside0 (Below w.heap.size w wc))
                   case first =>
                    have H := HC74.out
                    clear HC74
                    by_cases c75 : ((rd_T32 l0 a1).f0) = 3
                    ·rw [if_pos c75] at H
                     have c75b0 : (((rd_T32 l0 a1).f0) == 3) = true := beq_iff_eq.mpr c75
                     have c75b1 : (((rd_T32 l0 a1).f0) != 3) = false := bne_eq_false_iff_eq.mpr c75
                     clear c75
                     (first | rw [c75b0] | (simp only [i64_w, i32_w]; rw [c75b0]) | skip)
                     by_cases c76 : 0 ≤ ((rd_T32 l0 a1).f3)
                     case neg => rw [if_neg c76] at H; exact absurd H (by simp)
                     rw [if_pos c76] at H
                     have c76b0 : decide (0 ≤ ((rd_T32 l0 a1).f3)) = true := decide_eq_true c76
                     clear c76
                     by_cases c77 : ((rd_T32 l0 a1).f3) < (l0.length : Int)
                     case neg => rw [if_neg c77] at H; exact absurd H (by simp)
                     rw [if_pos c77] at H
                     have c77b0 : decide (((rd_T32 l0 a1).f3) < (l0.length : Int)) = true := decide_eq_true c77
                     clear c77
                     have H' := Aside0.mk H
                     clear H
                     obtain ⟨hcz78_0, hcz78_1, hcz78_2, hcz78_3, hcz78_4, hcz78_5, hfz78_0, hfz78_1, hfz78_2, hfz78_3, hfz78_4, hfz78_5⟩ := cells6 BK125.out
                     have p127 : 0 ≤ (((rd_T32 l0 a1).f3) : Int) := of_decide_eq_true (by first | (with_reducible assumption) | assumption)
                     have q127 : ((rd_T32 l0 a1).f3) < (l0.length : Int) := of_decide_eq_true (by first | (with_reducible assumption) | assumption)
                     obtain ⟨ad127, A127_5, c127_5, e127, hx127_0, hx127_1, hx127_2, hx127_3, hx127_4, hx127_5, hl127_5, hi127_5⟩ := at_T32 HR0.out ((rd_T32 l0 a1).f3) p127 q127
                     obtain rfl : ad124 = ad127 := (by injection e127)
                     replace hx127_0 := (HB.out.cell (World.block_lt_of_cell? w _ hx127_0)).trans hx127_0
                     replace hx127_1 := (HB.out.cell (World.block_lt_of_cell? w _ hx127_1)).trans hx127_1
                     replace hx127_2 := (HB.out.cell (World.block_lt_of_cell? w _ hx127_2)).trans hx127_2
                     replace hx127_3 := (HB.out.cell (World.block_lt_of_cell? w _ hx127_3)).trans hx127_3
                     replace hx127_4 := (HB.out.cell (World.block_lt_of_cell? w _ hx127_4)).trans hx127_4
                     replace hx127_5 := (HB.out.cell (World.block_lt_of_cell? w _ hx127_5)).trans hx127_5
                     have HR127_5 := Aside0.mk hi127_5
                     have HC127_5 := Aside0.mk hl127_5
                     clear hi127_5 hl127_5
                     replace p127 := eq_true p127
                     replace q127 := eq_true q127
                     go_wp2
                     repeat (go_quiet (fail); try go_wp2)
                     go_meet
                     case rel => exact ⟨_, ((((rd_T32 l0 a1).f2) != (wrap64 (((rd_T32 l0 a1).f4) * ((rd_T32 l0 ((rd_T32 l0 a1).f3)).f2))))), (by first | rfl | (simp; done) | (simp [*]; done)), H', ⟨by have := HJ4.out; have := HJ11.out; have := HJ17.out; have := HJ30.out; have := HJ53.out; have := HJ68.out; first | omega | exact Nat.le_refl _⟩, ⟨by (with_reducible repeat (first | refine blk_drewN ?_ _ | refine blk_drew ?_ | refine blk_alloc ?_ _)); exact BK125.out⟩, ⟨by repeat (first | (with_reducible first | exact HB.out | apply below_alloc | apply pw_below_drewN | apply below_drew1 | refine below_set ?_ GE125.out) | exact HB.out)⟩⟩
                    ·rw [if_neg c75] at H
                     have c75b0 : (((rd_T32 l0 a1).f0) == 3) = false := beq_eq_false_iff_ne.mpr c75
                     have c75b1 : (((rd_T32 l0 a1).f0) != 3) = true := bne_iff_ne.mpr c75
                     (first | rw [c75b0] | (simp only [i64_w, i32_w]; rw [c75b0]) | skip)
                     have H' := Aside0.mk H
                     clear H
                     obtain ⟨hcz79_0, hcz79_1, hcz79_2, hcz79_3, hcz79_4, hcz79_5, hfz79_0, hfz79_1, hfz79_2, hfz79_3, hfz79_4, hfz79_5⟩ := cells6 BK125.out
                     go_wp2
                     repeat (go_quiet (fail); try go_wp2)
                     go_meet
                     case rel => exact ⟨_, (false), (by first | rfl | (simp; done) | (simp [*]; done)), H', ⟨by have := HJ4.out; have := HJ11.out; have := HJ17.out; have := HJ30.out; have := HJ53.out; have := HJ68.out; first | omega | exact Nat.le_refl _⟩, ⟨by (with_reducible repeat (first | refine blk_drewN ?_ _ | refine blk_drew ?_ | refine blk_alloc ?_ _)); exact BK125.out⟩, ⟨by repeat (first | (with_reducible first | exact HB.out | apply below_alloc | apply pw_below_drewN | apply below_drew1 | refine below_set ?_ GE125.out) | exact HB.out)⟩⟩
                   case rest =>
                    as_aux_lemma =>
                    clear HC74
                    try clear c3; try clear c3b0; try clear c4; try clear c4b0; try clear c11; try clear c17; try clear c30; try clear c53; try clear c68; try clear c73; try clear hcz7_0; try clear hcz7_1; try clear hcz7_2; try clear hcz7_3; try clear hcz7_4; try clear hcz7_5; try clear hfz7_0; try clear hfz7_1; try clear hfz7_2; try clear hfz7_3; try clear hfz7_4; try clear hfz7_5; try clear hx124_0; try clear hx124_1; try clear hx124_2; try clear hx124_3; try clear hx124_4; try clear hx124_5; try clear p124; try clear q124
                    obtain ⟨kq, x131_73, rfl, HA, HJ73, BK125, HB⟩ := hcut
                    cases kq with
                    | zero => exact absurd HA.out (by simp [records_check.j6])
                    | succ kj73 =>
                     have H := HA.out
                     clear HA
                     simp only [records_check.j6] at H
                     by_cases c80 : x131_73 = true
                     ·subst c80
                      have H1 : (some 9) = some r := by rw [if_pos rfl] at H; exact H
                      replace H := H1; clear H1
                      obtain rfl := Option.some.inj H
                      go_wp2
                      repeat (go_quiet (fail); try go_wp2)
                      go_ret
                      exact ⟨by first | rfl | (simp [errW_none, errW_some] <;> rfl) | (simp [*, errW_none, errW_some] <;> rfl), by repeat (first | (with_reducible first | exact HB.out | apply below_alloc | apply pw_below_drewN | apply below_drew1 | refine below_set ?_ GE125.out) | exact HB.out)⟩
                     ·replace c80 := Bool.eq_false_iff.mpr c80
                      subst c80
                      have H1 : (if (((rd_T32 l0 a1).f5).length : Int) > 8 then (some 2) else (records_check.l0 kj73 l0 a1 (((rd_T32 l0 a1).f5).length : Int) 0)) = some r := by rw [if_neg (show ¬ (false = true) by decide)] at H; exact H
                      replace H := H1; clear H1
                      by_cases c81 : (((rd_T32 l0 a1).f5).length : Int) > 8
                      ·rw [if_pos c81] at H
                       have c81b0 : decide (8 < (((rd_T32 l0 a1).f5).length : Int)) = true := decide_eq_true c81
                       have c81b1 : decide (8 < ((rd_T32 l0 a1).f5).length) = true := decide_eq_true (by omega)
                       clear c81
                       obtain rfl := Option.some.inj H
                       obtain ⟨hcz82_0, hcz82_1, hcz82_2, hcz82_3, hcz82_4, hcz82_5, hfz82_0, hfz82_1, hfz82_2, hfz82_3, hfz82_4, hfz82_5⟩ := cells6 BK125.out
                       go_wp2
                       repeat (go_quiet (fail); try go_wp2)
                       go_ret
                       exact ⟨by first | rfl | (simp [errW_none, errW_some] <;> rfl) | (simp [*, errW_none, errW_some] <;> rfl), by repeat (first | (with_reducible first | exact HB.out | apply below_alloc | apply pw_below_drewN | apply below_drew1 | refine below_set ?_ GE125.out) | exact HB.out)⟩
                      ·rw [if_neg c81] at H
                       have c81b0 : decide (8 < (((rd_T32 l0 a1).f5).length : Int)) = false := decide_eq_false c81
                       have c81b1 : decide (8 < ((rd_T32 l0 a1).f5).length) = false := decide_eq_false (by omega)
                       clear c81
                       have H' := Aside0.mk H
                       clear H
                       obtain ⟨hcz83_0, hcz83_1, hcz83_2, hcz83_3, hcz83_4, hcz83_5, hfz83_0, hfz83_1, hfz83_2, hfz83_3, hfz83_4, hfz83_5⟩ := cells6 BK125.out
                       go_wp2
                       repeat (go_quiet (fail); try go_wp2)
                       go_loopg [157] kj73 (fun kq v157 w' => ∃ (x157_8 : Int), v157 = .int .i64 x157_8 ∧ Aside0 (records_check.l0 kq l0 a1 (((rd_T32 l0 a1).f5).length : Int) x157_8 = some r) ∧ Aside0 (kq ≤ kj73) ∧ Aside0 (w'.heap[gb125]? = some (.cells #[.int .i64 ((rd_T32 l0 a1).f0), .string ((rd_T32 l0 a1).f1), .int .i64 ((rd_T32 l0 a1).f2), .int .i64 ((rd_T32 l0 a1).f3), .int .i64 ((rd_T32 l0 a1).f4), (.slice A124_5 ((rd_T32 l0 a1).f5).length c124_5)] 32 (0, 0))) ∧ Aside0 (Below w.heap.size w w'))
                       case atStart => exact ⟨(0), (by first | rfl | (simp; done) | (simp [*]; done)), H', ⟨Nat.le_refl _⟩, ⟨by (with_reducible repeat (first | refine blk_drewN ?_ _ | refine blk_drew ?_ | refine blk_alloc ?_ _)); exact BK125.out⟩, ⟨by repeat (first | (with_reducible first | exact HB.out | apply below_alloc | apply pw_below_drewN | apply below_drew1 | refine below_set ?_ GE125.out) | exact HB.out)⟩⟩
                       case round =>
                        clear H'
                        try clear c3; try clear c3b0; try clear c4; try clear c4b0; try clear c11; try clear c17; try clear c30; try clear c53; try clear c68; try clear c73; try clear c80; try clear c81; try clear c81b0; try clear c81b1; try clear hcz7_0; try clear hcz7_1; try clear hcz7_2; try clear hcz7_3; try clear hcz7_4; try clear hcz7_5; try clear hcz83_0; try clear hcz83_1; try clear hcz83_2; try clear hcz83_3; try clear hcz83_4; try clear hcz83_5; try clear hfz7_0; try clear hfz7_1; try clear hfz7_2; try clear hfz7_3; try clear hfz7_4; try clear hfz7_5; try clear hfz83_0; try clear hfz83_1; try clear hfz83_2; try clear hfz83_3; try clear hfz83_4; try clear hfz83_5; try clear hx124_0; try clear hx124_1; try clear hx124_2; try clear hx124_3; try clear hx124_4; try clear hx124_5; try clear p124; try clear q124
                        obtain ⟨x157_8, rfl, HA, HK8, BK125, HB⟩ := hrel
                        cases gk with
                        | zero => exact absurd HA.out (by simp [records_check.l0])
                        | succ k8 =>
                         have H := HA.out
                         clear HA
                         simp only [records_check.l0] at H
                         by_cases c84 : x157_8 < (((rd_T32 l0 a1).f5).length : Int)
                         ·rw [if_pos c84] at H
                          have c84b0 : decide (x157_8 < (((rd_T32 l0 a1).f5).length : Int)) = true := decide_eq_true c84
                          clear c84
                          replace H := Option.bind_eq_some_iff.mp H
                          obtain ⟨t128, A850, H⟩ := H
                          replace H : (if t128 = 0 then (records_check.l0 k8 l0 a1 (((rd_T32 l0 a1).f5).length : Int) (wrap64 (x157_8 + 1))) else (some t128)) = some r := H
                          have A85 := Aside0.mk A850
                          clear A850
                          by_cases c86 : t128 = 0
                          ·rw [if_pos c86] at H
                           have c86b0 : (t128 == 0) = true := beq_iff_eq.mpr c86
                           have c86b1 : (t128 != 0) = false := bne_eq_false_iff_eq.mpr c86
                           clear c86
                           have H' := Aside0.mk H
                           clear H
                           go_wp2_with (first | (go_at_call 34; (with_reducible refine (records_field.calls k8 _ _ l0 a1 x157_8 t128 _ ?side1 ?side2 A85.out).mono ?_); (case side1 => repeat (first | exact (Kd.C_below HR0.out HB.out) | (with_reducible refine Kd.C_alloc ?_ _) | (with_reducible refine Kd.C_drewN ?_ _) | (with_reducible refine Kd.C_drew ?_))); (case side2 => exact HC0.out); rintro e w87 ⟨rfl, hb⟩; have n0_ := Aside0.mk (blk_below (g := gb125) (o := .cells #[.int .i64 ((rd_T32 l0 a1).f0), .string ((rd_T32 l0 a1).f1), .int .i64 ((rd_T32 l0 a1).f2), .int .i64 ((rd_T32 l0 a1).f3), .int .i64 ((rd_T32 l0 a1).f4), .slice A124_5 ((rd_T32 l0 a1).f5).length c124_5] 32 (0, 0)) (by (with_reducible repeat (first | refine blk_drewN ?_ _ | refine blk_drew ?_ | refine blk_alloc ?_ _)); exact BK125.out) hb); have n1_ := Aside0.mk (below_step (by repeat (first | (with_reducible first | exact HB.out | apply below_alloc | apply pw_below_drewN | apply below_drew1 | refine below_set ?_ GE125.out) | exact HB.out)) hb); clear BK125; clear HB; have BK125 := n0_; have HB := n1_; clear n0_ n1_; (try clear hb); (try clear hb2); (try clear hk); (try clear hi)))
                           repeat (go_quiet (fail); try go_wp2)
                           go_roundg k8
                           case measure => have := HJ4.out; have := HJ11.out; have := HJ17.out; have := HJ30.out; have := HJ53.out; have := HJ68.out; have := HJ73.out; have := HK8.out; omega
                           case rel => exact ⟨(wrap64 (x157_8 + 1)), (by first | rfl | (simp; done) | (simp [*]; done)), H', ⟨by have := HJ4.out; have := HJ11.out; have := HJ17.out; have := HJ30.out; have := HJ53.out; have := HJ68.out; have := HJ73.out; have := HK8.out; omega⟩, ⟨by (with_reducible repeat (first | refine blk_drewN ?_ _ | refine blk_drew ?_ | refine blk_alloc ?_ _)); exact BK125.out⟩, ⟨by repeat (first | (with_reducible first | exact HB.out | apply below_alloc | apply pw_below_drewN | apply below_drew1 | refine below_set ?_ GE125.out) | exact HB.out)⟩⟩
                          ·rw [if_neg c86] at H
                           have c86b0 : (t128 == 0) = false := beq_eq_false_iff_ne.mpr c86
                           have c86b1 : (t128 != 0) = true := bne_iff_ne.mpr c86
                           obtain rfl := Option.some.inj H
                           go_wp2_with (first | (go_at_call 34; (with_reducible refine (records_field.calls k8 _ _ l0 a1 x157_8 t128 _ ?side1 ?side2 A85.out).mono ?_); (case side1 => repeat (first | exact (Kd.C_below HR0.out HB.out) | (with_reducible refine Kd.C_alloc ?_ _) | (with_reducible refine Kd.C_drewN ?_ _) | (with_reducible refine Kd.C_drew ?_))); (case side2 => exact HC0.out); rintro e w88 ⟨rfl, hb⟩; have n0_ := Aside0.mk (blk_below (g := gb125) (o := .cells #[.int .i64 ((rd_T32 l0 a1).f0), .string ((rd_T32 l0 a1).f1), .int .i64 ((rd_T32 l0 a1).f2), .int .i64 ((rd_T32 l0 a1).f3), .int .i64 ((rd_T32 l0 a1).f4), .slice A124_5 ((rd_T32 l0 a1).f5).length c124_5] 32 (0, 0)) (by (with_reducible repeat (first | refine blk_drewN ?_ _ | refine blk_drew ?_ | refine blk_alloc ?_ _)); exact BK125.out) hb); have n1_ := Aside0.mk (below_step (by repeat (first | (with_reducible first | exact HB.out | apply below_alloc | apply pw_below_drewN | apply below_drew1 | refine below_set ?_ GE125.out) | exact HB.out)) hb); clear BK125; clear HB; have BK125 := n0_; have HB := n1_; clear n0_ n1_; (try clear hb); (try clear hb2); (try clear hk); (try clear hi)))
                           repeat (go_quiet (fail); try go_wp2)
                           go_ret
                           exact ⟨by first | rfl | (simp [errW_none, errW_some] <;> rfl) | (simp [*, errW_none, errW_some] <;> rfl), by repeat (first | (with_reducible first | exact HB.out | apply below_alloc | apply pw_below_drewN | apply below_drew1 | refine below_set ?_ GE125.out) | exact HB.out)⟩
                         ·rw [if_neg c84] at H
                          have c84b0 : decide (x157_8 < (((rd_T32 l0 a1).f5).length : Int)) = false := decide_eq_false c84
                          clear c84
                          obtain rfl := Option.some.inj H
                          go_wp2
                          repeat (go_quiet (fail); try go_wp2)
                          go_ret
                          exact ⟨by first | rfl | (simp [errW_none, errW_some] <;> rfl) | (simp [*, errW_none, errW_some] <;> rfl), by repeat (first | (with_reducible first | exact HB.out | apply below_alloc | apply pw_below_drewN | apply below_drew1 | refine below_set ?_ GE125.out) | exact HB.out)⟩

end Go.Proofs.Ytpmlcmdojmdmhaa.PR
