-- Written by a program of this session's own for function contracts (after the kit's print): not trusted, Lean checks it.
import Derived.Test.YtpmlcmdojmdmhaaPRx0
import Derived.Test.YtpmlcmdojmdmhaaPRxS
namespace Go.Proofs.Ytpmlcmdojmdmhaa.PR
open Go.RowKit Go.Proofs.YtpmlcmdojmdmhaaW.PrintWords Go.Proofs.YtpmlcmdojmdmhaaW.PrintLast Go.Proofs.YtpmlcmdojmdmhaaW.PrintMore
attribute [local go_sem] max2_int min2_int max_two min_two max_three min_three max_four min_four   -- for this text's walks alone
set_option linter.unusedVariables false
set_option linter.unusedSimpArgs false

/-! ### linkhouseref2_TypeCode: function 27 -/
mutual
def linkhouseref2_TypeCode.j0 : Nat → List (S32) → Int → Bool → Int → ByteArray → Int → Int → Int → List (S55) → Option (Int)
  | 0, _, _, _, _, _, _, _, _, _ => none
  | k + 1, x0, x1, x26, x306000, x306001, x306002, x306003, x306004, x306005 => if x26 = true then (some 12) else ((linkhouseref1_In.f x306002 0 1000000).bind fun t308 => (if t308 = true then ((linkhouseref1_In.f x306004 0 1000000).bind fun t309 => (if t309 = true then ((linkhouseref1_In.f x306003 0 (wrap64 ((x0.length : Int) - 1))).bind fun t310 => (linkhouseref2_TypeCode.j1 k x0 x1 (!t310) x306000 x306001 x306002 x306003 x306004 x306005)) else (linkhouseref2_TypeCode.j1 k x0 x1 true x306000 x306001 x306002 x306003 x306004 x306005))) else (linkhouseref2_TypeCode.j1 k x0 x1 true x306000 x306001 x306002 x306003 x306004 x306005)))
def linkhouseref2_TypeCode.j1 : Nat → List (S32) → Int → Bool → Int → ByteArray → Int → Int → Int → List (S55) → Option (Int)
  | 0, _, _, _, _, _, _, _, _, _ => none
  | k + 1, x0, x1, x45, x306000, x306001, x306002, x306003, x306004, x306005 => if x45 = true then (some 3) else (if x306004 = 0 then (if (x306005.length : Int) > 0 then (if x306000 = 4 then (if x306003 = 0 then (linkhouseref2_TypeCode.j2 k x0 x1 false x306000 x306001 x306002 x306003 x306004 x306005) else (if x306000 = 1 then (linkhouseref2_TypeCode.j2 k x0 x1 true x306000 x306001 x306002 x306003 x306004 x306005) else (linkhouseref2_TypeCode.j2 k x0 x1 (x306000 == 4) x306000 x306001 x306002 x306003 x306004 x306005))) else (linkhouseref2_TypeCode.j2 k x0 x1 true x306000 x306001 x306002 x306003 x306004 x306005)) else (if x306003 = 0 then (linkhouseref2_TypeCode.j2 k x0 x1 false x306000 x306001 x306002 x306003 x306004 x306005) else (if x306000 = 1 then (linkhouseref2_TypeCode.j2 k x0 x1 true x306000 x306001 x306002 x306003 x306004 x306005) else (linkhouseref2_TypeCode.j2 k x0 x1 (x306000 == 4) x306000 x306001 x306002 x306003 x306004 x306005)))) else (if x306000 = 3 then (if (x306005.length : Int) > 0 then (if x306000 = 4 then (if x306003 = 0 then (linkhouseref2_TypeCode.j2 k x0 x1 false x306000 x306001 x306002 x306003 x306004 x306005) else (if x306000 = 1 then (linkhouseref2_TypeCode.j2 k x0 x1 true x306000 x306001 x306002 x306003 x306004 x306005) else (linkhouseref2_TypeCode.j2 k x0 x1 (x306000 == 4) x306000 x306001 x306002 x306003 x306004 x306005))) else (linkhouseref2_TypeCode.j2 k x0 x1 true x306000 x306001 x306002 x306003 x306004 x306005)) else (if x306003 = 0 then (linkhouseref2_TypeCode.j2 k x0 x1 false x306000 x306001 x306002 x306003 x306004 x306005) else (if x306000 = 1 then (linkhouseref2_TypeCode.j2 k x0 x1 true x306000 x306001 x306002 x306003 x306004 x306005) else (linkhouseref2_TypeCode.j2 k x0 x1 (x306000 == 4) x306000 x306001 x306002 x306003 x306004 x306005)))) else (linkhouseref2_TypeCode.j2 k x0 x1 true x306000 x306001 x306002 x306003 x306004 x306005)))
def linkhouseref2_TypeCode.j2 : Nat → List (S32) → Int → Bool → Int → ByteArray → Int → Int → Int → List (S55) → Option (Int)
  | 0, _, _, _, _, _, _, _, _, _ => none
  | k + 1, x0, x1, x79, x306000, x306001, x306002, x306003, x306004, x306005 => if x79 = true then (some 5) else (if x306000 = 1 then (if x306002 = 1 then (if x306000 = 2 then (linkhouseref2_TypeCode.j3 k x0 x1 (x306002 != 4) x306000 x306001 x306002 x306003 x306004 x306005) else (linkhouseref2_TypeCode.j3 k x0 x1 false x306000 x306001 x306002 x306003 x306004 x306005)) else (if x306002 = 4 then (if x306000 = 2 then (linkhouseref2_TypeCode.j3 k x0 x1 (x306002 != 4) x306000 x306001 x306002 x306003 x306004 x306005) else (linkhouseref2_TypeCode.j3 k x0 x1 false x306000 x306001 x306002 x306003 x306004 x306005)) else (linkhouseref2_TypeCode.j3 k x0 x1 true x306000 x306001 x306002 x306003 x306004 x306005))) else (if x306000 = 2 then (linkhouseref2_TypeCode.j3 k x0 x1 (x306002 != 4) x306000 x306001 x306002 x306003 x306004 x306005) else (linkhouseref2_TypeCode.j3 k x0 x1 false x306000 x306001 x306002 x306003 x306004 x306005)))
def linkhouseref2_TypeCode.j3 : Nat → List (S32) → Int → Bool → Int → ByteArray → Int → Int → Int → List (S55) → Option (Int)
  | 0, _, _, _, _, _, _, _, _, _ => none
  | k + 1, x0, x1, x102, x306000, x306001, x306002, x306003, x306004, x306005 => if x102 = true then (some 9) else (if x306000 = 3 then (linkhouseref2_TypeCode.j4 k x0 x1 (decide (x306003 ≥ x1)) x306000 x306001 x306002 x306003 x306004 x306005) else (linkhouseref2_TypeCode.j4 k x0 x1 false x306000 x306001 x306002 x306003 x306004 x306005))
def linkhouseref2_TypeCode.j4 : Nat → List (S32) → Int → Bool → Int → ByteArray → Int → Int → Int → List (S55) → Option (Int)
  | 0, _, _, _, _, _, _, _, _, _ => none
  | k + 1, x0, x1, x111, x306000, x306001, x306002, x306003, x306004, x306005 => if x111 = true then (some 3) else (if x306000 = 3 then (if 0 ≤ x306003 then (if x306003 < (x0.length : Int) then (linkhouseref2_TypeCode.j5 k x0 x1 (x306002 != (wrap64 (x306004 * ((rd_T32 x0 x306003).f2)))) x306000 x306001 x306002 x306003 x306004 x306005) else (none)) else (none)) else (linkhouseref2_TypeCode.j5 k x0 x1 false x306000 x306001 x306002 x306003 x306004 x306005))
def linkhouseref2_TypeCode.j5 : Nat → List (S32) → Int → Bool → Int → ByteArray → Int → Int → Int → List (S55) → Option (Int)
  | 0, _, _, _, _, _, _, _, _, _ => none
  | k + 1, x0, x1, x128, x306000, x306001, x306002, x306003, x306004, x306005 => if x128 = true then (some 9) else (if (x306005.length : Int) > 8 then (some 2) else (linkhouseref2_TypeCode.l0 k x0 x1 0 0 x306000 x306001 x306002 x306003 x306004 x306005))
def linkhouseref2_TypeCode.l0 : Nat → List (S32) → Int → Int → Int → Int → ByteArray → Int → Int → Int → List (S55) → Option (Int)
  | 0, _, _, _, _, _, _, _, _, _, _ => none
  | k + 1, x0, x1, x6, x7, x306000, x306001, x306002, x306003, x306004, x306005 => if x7 < (x306005.length : Int) then (if 0 ≤ x7 then ((linkhouseref1_Name.f k ((rd_T55 x306005 x7).f0)).bind fun t314 => (if t314 = true then (linkhouseref2_TypeCode.l1 k x0 x1 x6 x7 0 x306000 x306001 x306002 x306003 x306004 x306005 ((rd_T55 x306005 x7).f0) ((rd_T55 x306005 x7).f1) ((rd_T55 x306005 x7).f2)) else (some 12))) else (none)) else (some 0)
def linkhouseref2_TypeCode.l1 : Nat → List (S32) → Int → Int → Int → Int → Int → ByteArray → Int → Int → Int → List (S55) → ByteArray → Int → Int → Option (Int)
  | 0, _, _, _, _, _, _, _, _, _, _, _, _, _, _ => none
  | k + 1, x0, x1, x6, x7, x9, x306000, x306001, x306002, x306003, x306004, x306005, x314000, x314001, x314002 => if x9 < x7 then (if 0 ≤ x9 then (if x9 < (x306005.length : Int) then (if ((rd_T55 x306005 x9).f0).toList = x314000.toList then (some 7) else (linkhouseref2_TypeCode.l1 k x0 x1 x6 x7 (wrap64 (x9 + 1)) x306000 x306001 x306002 x306003 x306004 x306005 x314000 x314001 x314002)) else (none)) else (none)) else ((linkhouseref1_In.f x314001 0 (wrap64 (x1 - 1))).bind fun t316 => (if t316 = true then (if x314002 < x6 then (some 5) else (if x314002 > 2000000 then (some 5) else (if 0 ≤ x314001 then (if x314001 < (x0.length : Int) then (if (wrap64 (x314002 + ((rd_T32 x0 x314001).f2))) > x306002 then (some 5) else (linkhouseref2_TypeCode.l0 k x0 x1 (wrap64 (x314002 + ((rd_T32 x0 x314001).f2))) (wrap64 (x7 + 1)) x306000 x306001 x306002 x306003 x306004 x306005)) else (none)) else (none)))) else (some 3)))
end
def linkhouseref2_TypeCode.f (k : Nat) (l0 : List (S32)) (a1 : Int) : Option (Int) := if 0 ≤ a1 then (if a1 < (l0.length : Int) then ((linkhouseref1_In.f ((rd_T32 l0 a1).f0) 1 4).bind fun t306 => (if t306 = true then (if ((rd_T32 l0 a1).f1).toList = ([] : List UInt8) then (linkhouseref2_TypeCode.j0 k l0 a1 false ((rd_T32 l0 a1).f0) ((rd_T32 l0 a1).f1) ((rd_T32 l0 a1).f2) ((rd_T32 l0 a1).f3) ((rd_T32 l0 a1).f4) ((rd_T32 l0 a1).f5)) else ((linkhouseref1_Name.f k ((rd_T32 l0 a1).f1)).bind fun t307 => (linkhouseref2_TypeCode.j0 k l0 a1 (!t307) ((rd_T32 l0 a1).f0) ((rd_T32 l0 a1).f1) ((rd_T32 l0 a1).f2) ((rd_T32 l0 a1).f3) ((rd_T32 l0 a1).f4) ((rd_T32 l0 a1).f5)))) else (some 4))) else (none)) else (none)
set_option maxHeartbeats 8000000 in
set_option maxRecDepth 100000 in
theorem linkhouseref2_TypeCode.calls (k : Nat) (A0 : Option Addr) (c0 : Nat) (l0 : List (S32)) (a1 : Int) (r : Int) (w : World) (hr0 : Kd.C k32 w A0 l0.length l0) (hc0 : l0.length ≤ c0) (h : linkhouseref2_TypeCode.f k l0 a1 = some r) :
  Calls Try.prog 27 #[.slice A0 l0.length c0, .int .i64 a1] w fun e w' => e = .returned (.int .i64 r) ∧ Below w.heap.size w w' := by
 have hu32 := Try.underlying32
 have hu55 := Try.underlying55
 have HR0 := Aside0.mk hr0
 have HC0 := Aside0.mk hc0
 clear hr0 hc0
 have HB := Aside0.mk (Below.refl w.heap.size w)
 have H : (if 0 ≤ a1 then (if a1 < (l0.length : Int) then ((linkhouseref1_In.f ((rd_T32 l0 a1).f0) 1 4).bind fun t306 => (if t306 = true then (if ((rd_T32 l0 a1).f1).toList = ([] : List UInt8) then (linkhouseref2_TypeCode.j0 k l0 a1 false ((rd_T32 l0 a1).f0) ((rd_T32 l0 a1).f1) ((rd_T32 l0 a1).f2) ((rd_T32 l0 a1).f3) ((rd_T32 l0 a1).f4) ((rd_T32 l0 a1).f5)) else ((linkhouseref1_Name.f k ((rd_T32 l0 a1).f1)).bind fun t307 => (linkhouseref2_TypeCode.j0 k l0 a1 (!t307) ((rd_T32 l0 a1).f0) ((rd_T32 l0 a1).f1) ((rd_T32 l0 a1).f2) ((rd_T32 l0 a1).f3) ((rd_T32 l0 a1).f4) ((rd_T32 l0 a1).f5)))) else (some 4))) else (none)) else (none)) = some r := h
 clear h
 by_cases c3 : 0 ≤ a1
 case neg => rw [if_neg c3] at H; exact absurd H (by simp)
 rw [if_pos c3] at H
 have c3b0 : decide (0 ≤ a1) = true := decide_eq_true c3
 clear c3
 by_cases c4 : a1 < (l0.length : Int)
 case neg => rw [if_neg c4] at H; exact absurd H (by simp)
 rw [if_pos c4] at H
 have c4b0 : decide (a1 < (l0.length : Int)) = true := decide_eq_true c4
 clear c4
 replace H := Option.bind_eq_some_iff.mp H
 obtain ⟨t306, A50, H⟩ := H
 replace H : (if t306 = true then (if ((rd_T32 l0 a1).f1).toList = ([] : List UInt8) then (linkhouseref2_TypeCode.j0 k l0 a1 false ((rd_T32 l0 a1).f0) ((rd_T32 l0 a1).f1) ((rd_T32 l0 a1).f2) ((rd_T32 l0 a1).f3) ((rd_T32 l0 a1).f4) ((rd_T32 l0 a1).f5)) else ((linkhouseref1_Name.f k ((rd_T32 l0 a1).f1)).bind fun t307 => (linkhouseref2_TypeCode.j0 k l0 a1 (!t307) ((rd_T32 l0 a1).f0) ((rd_T32 l0 a1).f1) ((rd_T32 l0 a1).f2) ((rd_T32 l0 a1).f3) ((rd_T32 l0 a1).f4) ((rd_T32 l0 a1).f5)))) else (some 4)) = some r := H
 have A5 := Aside0.mk A50
 clear A50
 by_cases c6 : t306 = true
 ·subst c6
  have H1 : (if ((rd_T32 l0 a1).f1).toList = ([] : List UInt8) then (linkhouseref2_TypeCode.j0 k l0 a1 false ((rd_T32 l0 a1).f0) ((rd_T32 l0 a1).f1) ((rd_T32 l0 a1).f2) ((rd_T32 l0 a1).f3) ((rd_T32 l0 a1).f4) ((rd_T32 l0 a1).f5)) else ((linkhouseref1_Name.f k ((rd_T32 l0 a1).f1)).bind fun t307 => (linkhouseref2_TypeCode.j0 k l0 a1 (!t307) ((rd_T32 l0 a1).f0) ((rd_T32 l0 a1).f1) ((rd_T32 l0 a1).f2) ((rd_T32 l0 a1).f3) ((rd_T32 l0 a1).f4) ((rd_T32 l0 a1).f5)))) = some r := by rw [if_pos rfl] at H; exact H
  replace H := H1; clear H1
  have HC7 := Aside0.mk H
  clear H
  have p304 : 0 ≤ (a1 : Int) := of_decide_eq_true (by first | (with_reducible assumption) | assumption)
  have q304 : a1 < (l0.length : Int) := of_decide_eq_true (by first | (with_reducible assumption) | assumption)
  obtain ⟨ad304, A304_5, c304_5, e304, hx304_0, hx304_1, hx304_2, hx304_3, hx304_4, hx304_5, hl304_5, hi304_5⟩ := at_T32 HR0.out a1 p304 q304
  cases e304
  have HR304_5 := Aside0.mk hi304_5
  have HC304_5 := Aside0.mk hl304_5
  clear hi304_5 hl304_5
  replace p304 := eq_true p304
  replace q304 := eq_true q304
  go_enter Try.func27, Try.ntmps27
  go_upto_region 4 with (first | ((with_reducible refine gate_dst (N := 5) rfl ?_); (try (refine gate_guard (by rfl) ?_; dsimp only)); refine box_event ?hg (N := 5) ?hd (cs := #[.int .i64 0, .string (⟨#[]⟩ : ByteArray), .int .i64 0, .int .i64 0, .int .i64 0, .slice none 0 0]) (t := 32) ?hr ?_; (case hd => rfl); (case hg => rfl); (case hr => first | (go_simp; done) | (go_simp; rfl)); intro gb305 hg w8 hbox hb; have n0_ := Aside0.mk (below_step (by repeat (first | (with_reducible first | exact HB.out | apply below_alloc | apply pw_below_drewN | apply below_drew1) | exact HB.out)) hb); have n1_ := Aside0.mk (hbox); have n2_ := Aside0.mk ((by rw [hg]; exact (below_size (by repeat (first | (with_reducible first | exact HB.out | apply below_alloc | apply pw_below_drewN | apply below_drew1) | exact HB.out))) : w.heap.size ≤ gb305)); have n3_ := Aside0.mk ((by rw [hg]; exact (below_size (by repeat (first | (with_reducible first | exact HB.out | apply below_alloc | apply pw_below_drewN | apply below_drew1) | exact HB.out))) : w.heap.size ≤ gb305)); clear HB; have HB := n0_; have BK305 := n1_; have GW305 := n2_; have GE305 := n3_; clear n0_ n1_ n2_ n3_; clear hb hbox hg; obtain ⟨hcz9_0, hcz9_1, hcz9_2, hcz9_3, hcz9_4, hcz9_5, hfz9_0, hfz9_1, hfz9_2, hfz9_3, hfz9_4, hfz9_5⟩ := cells6 BK305.out) | (go_at_call 20; (with_reducible refine (linkhouseref1_In.calls ((rd_T32 l0 a1).f0) 1 4 true _ A5.out).mono ?_); rintro e w' ⟨rfl, ⟨nd, rfl⟩⟩; (try first | exact ⟨rfl, _, World.drewN_drewN _ _ _⟩ | exact ⟨rfl, _, Eq.trans (World.drewN_drewN _ _ _) (congrArg (World.drewN _) (Nat.add_assoc _ _ _))⟩)))
  repeat (go_quiet (fail); go_upto_region 4 with (fail))
  (try simp only [Act.put, List.setIfInBounds_toArray, List.set_cons_zero, List.set_cons_succ])
  go_cut [26] (fun v26 wc => ∃ (kq : Nat) (x26_6 : Bool), v26 = .bool x26_6 ∧ Aside0 (linkhouseref2_TypeCode.j0 kq l0 a1 x26_6 ((rd_T32 l0 a1).f0) ((rd_T32 l0 a1).f1) ((rd_T32 l0 a1).f2) ((rd_T32 l0 a1).f3) ((rd_T32 l0 a1).f4) ((rd_T32 l0 a1).f5) = some r) ∧ Aside0 (kq ≤ k) ∧ Aside0 (wc.heap[gb305]? = some (.cells #[.int .i64 ((rd_T32 l0 a1).f0), .string ((rd_T32 l0 a1).f1), .int .i64 ((rd_T32 l0 a1).f2), .int .i64 ((rd_T32 l0 a1).f3), .int .i64 ((rd_T32 l0 a1).f4), (.slice A304_5 ((rd_T32 l0 a1).f5).length c304_5)] 32 (0, 0))) ∧ Aside0 (Below w.heap.size w wc))
  case first =>
   have H := HC7.out
   clear HC7
   by_cases c10 : ((rd_T32 l0 a1).f1).toList = ([] : List UInt8)
   ·rw [if_pos c10] at H
    have c10b0 : (((rd_T32 l0 a1).f1).toList == ([] : List UInt8)) = true := beq_iff_eq.mpr c10
    have c10b1 : (((rd_T32 l0 a1).f1).toList != ([] : List UInt8)) = false := bne_eq_false_iff_eq.mpr c10
    clear c10
    (first | rw [c10b0] | (simp only [i64_w, i32_w]; rw [c10b0]) | skip)
    have H' := Aside0.mk H
    clear H
    obtain ⟨hcz11_0, hcz11_1, hcz11_2, hcz11_3, hcz11_4, hcz11_5, hfz11_0, hfz11_1, hfz11_2, hfz11_3, hfz11_4, hfz11_5⟩ := cells6 BK305.out
    go_wp2
    repeat (go_quiet (fail); try go_wp2)
    go_meet
    case rel => exact ⟨_, (false), (by first | rfl | (simp; done) | (simp [*]; done)), H', ⟨by first | omega | exact Nat.le_refl _⟩, ⟨by (with_reducible repeat (first | refine blk_drewN ?_ _ | refine blk_drew ?_ | refine blk_alloc ?_ _)); refine blk_put (cs := #[.int .i64 ((rd_T32 l0 a1).f0), .string ((rd_T32 l0 a1).f1), .int .i64 ((rd_T32 l0 a1).f2), .int .i64 ((rd_T32 l0 a1).f3), .int .i64 ((rd_T32 l0 a1).f4), .slice none 0 0]) ?_ 5 _ rfl; (with_reducible repeat (first | refine blk_drewN ?_ _ | refine blk_drew ?_ | refine blk_alloc ?_ _)); refine blk_put (cs := #[.int .i64 ((rd_T32 l0 a1).f0), .string ((rd_T32 l0 a1).f1), .int .i64 ((rd_T32 l0 a1).f2), .int .i64 ((rd_T32 l0 a1).f3), .int .i64 0, .slice none 0 0]) ?_ 4 _ rfl; (with_reducible repeat (first | refine blk_drewN ?_ _ | refine blk_drew ?_ | refine blk_alloc ?_ _)); refine blk_put (cs := #[.int .i64 ((rd_T32 l0 a1).f0), .string ((rd_T32 l0 a1).f1), .int .i64 ((rd_T32 l0 a1).f2), .int .i64 0, .int .i64 0, .slice none 0 0]) ?_ 3 _ rfl; (with_reducible repeat (first | refine blk_drewN ?_ _ | refine blk_drew ?_ | refine blk_alloc ?_ _)); refine blk_put (cs := #[.int .i64 ((rd_T32 l0 a1).f0), .string ((rd_T32 l0 a1).f1), .int .i64 0, .int .i64 0, .int .i64 0, .slice none 0 0]) ?_ 2 _ rfl; (with_reducible repeat (first | refine blk_drewN ?_ _ | refine blk_drew ?_ | refine blk_alloc ?_ _)); refine blk_put (cs := #[.int .i64 ((rd_T32 l0 a1).f0), .string (⟨#[]⟩ : ByteArray), .int .i64 0, .int .i64 0, .int .i64 0, .slice none 0 0]) ?_ 1 _ rfl; (with_reducible repeat (first | refine blk_drewN ?_ _ | refine blk_drew ?_ | refine blk_alloc ?_ _)); refine blk_put (cs := #[.int .i64 0, .string (⟨#[]⟩ : ByteArray), .int .i64 0, .int .i64 0, .int .i64 0, .slice none 0 0]) ?_ 0 _ rfl; (with_reducible repeat (first | refine blk_drewN ?_ _ | refine blk_drew ?_ | refine blk_alloc ?_ _)); exact BK305.out⟩, ⟨by repeat (first | (with_reducible first | exact HB.out | apply below_alloc | apply pw_below_drewN | apply below_drew1 | refine below_set ?_ GE305.out) | exact HB.out)⟩⟩
   ·rw [if_neg c10] at H
    have c10b0 : (((rd_T32 l0 a1).f1).toList == ([] : List UInt8)) = false := beq_eq_false_iff_ne.mpr c10
    have c10b1 : (((rd_T32 l0 a1).f1).toList != ([] : List UInt8)) = true := bne_iff_ne.mpr c10
    (first | rw [c10b0] | (simp only [i64_w, i32_w]; rw [c10b0]) | skip)
    replace H := Option.bind_eq_some_iff.mp H
    obtain ⟨t307, A120, H⟩ := H
    replace H : (linkhouseref2_TypeCode.j0 k l0 a1 (!t307) ((rd_T32 l0 a1).f0) ((rd_T32 l0 a1).f1) ((rd_T32 l0 a1).f2) ((rd_T32 l0 a1).f3) ((rd_T32 l0 a1).f4) ((rd_T32 l0 a1).f5)) = some r := H
    have A12 := Aside0.mk A120
    clear A120
    have H' := Aside0.mk H
    clear H
    obtain ⟨hcz13_0, hcz13_1, hcz13_2, hcz13_3, hcz13_4, hcz13_5, hfz13_0, hfz13_1, hfz13_2, hfz13_3, hfz13_4, hfz13_5⟩ := cells6 BK305.out
    go_wp2_with (first | (go_at_call 35; (with_reducible refine (linkhouseref1_Name.calls k ((rd_T32 l0 a1).f1) t307 _ A12.out).mono ?_); rintro e w' ⟨rfl, ⟨nd, rfl⟩⟩; (try first | exact ⟨rfl, _, World.drewN_drewN _ _ _⟩ | exact ⟨rfl, _, Eq.trans (World.drewN_drewN _ _ _) (congrArg (World.drewN _) (Nat.add_assoc _ _ _))⟩)))
    repeat (go_quiet (fail); try go_wp2)
    go_meet
    case rel => exact ⟨_, (!t307), (by first | rfl | (simp; done) | (simp [*]; done)), H', ⟨by first | omega | exact Nat.le_refl _⟩, ⟨by (with_reducible repeat (first | refine blk_drewN ?_ _ | refine blk_drew ?_ | refine blk_alloc ?_ _)); refine blk_put (cs := #[.int .i64 ((rd_T32 l0 a1).f0), .string ((rd_T32 l0 a1).f1), .int .i64 ((rd_T32 l0 a1).f2), .int .i64 ((rd_T32 l0 a1).f3), .int .i64 ((rd_T32 l0 a1).f4), .slice none 0 0]) ?_ 5 _ rfl; (with_reducible repeat (first | refine blk_drewN ?_ _ | refine blk_drew ?_ | refine blk_alloc ?_ _)); refine blk_put (cs := #[.int .i64 ((rd_T32 l0 a1).f0), .string ((rd_T32 l0 a1).f1), .int .i64 ((rd_T32 l0 a1).f2), .int .i64 ((rd_T32 l0 a1).f3), .int .i64 0, .slice none 0 0]) ?_ 4 _ rfl; (with_reducible repeat (first | refine blk_drewN ?_ _ | refine blk_drew ?_ | refine blk_alloc ?_ _)); refine blk_put (cs := #[.int .i64 ((rd_T32 l0 a1).f0), .string ((rd_T32 l0 a1).f1), .int .i64 ((rd_T32 l0 a1).f2), .int .i64 0, .int .i64 0, .slice none 0 0]) ?_ 3 _ rfl; (with_reducible repeat (first | refine blk_drewN ?_ _ | refine blk_drew ?_ | refine blk_alloc ?_ _)); refine blk_put (cs := #[.int .i64 ((rd_T32 l0 a1).f0), .string ((rd_T32 l0 a1).f1), .int .i64 0, .int .i64 0, .int .i64 0, .slice none 0 0]) ?_ 2 _ rfl; (with_reducible repeat (first | refine blk_drewN ?_ _ | refine blk_drew ?_ | refine blk_alloc ?_ _)); refine blk_put (cs := #[.int .i64 ((rd_T32 l0 a1).f0), .string (⟨#[]⟩ : ByteArray), .int .i64 0, .int .i64 0, .int .i64 0, .slice none 0 0]) ?_ 1 _ rfl; (with_reducible repeat (first | refine blk_drewN ?_ _ | refine blk_drew ?_ | refine blk_alloc ?_ _)); refine blk_put (cs := #[.int .i64 0, .string (⟨#[]⟩ : ByteArray), .int .i64 0, .int .i64 0, .int .i64 0, .slice none 0 0]) ?_ 0 _ rfl; (with_reducible repeat (first | refine blk_drewN ?_ _ | refine blk_drew ?_ | refine blk_alloc ?_ _)); exact BK305.out⟩, ⟨by repeat (first | (with_reducible first | exact HB.out | apply below_alloc | apply pw_below_drewN | apply below_drew1 | refine below_set ?_ GE305.out) | exact HB.out)⟩⟩
  case rest =>
   as_aux_lemma =>
   clear HC7
   try clear c3; try clear c3b0; try clear c4; try clear c4b0; try clear c6; try clear hcz9_0; try clear hcz9_1; try clear hcz9_2; try clear hcz9_3; try clear hcz9_4; try clear hcz9_5; try clear hfz9_0; try clear hfz9_1; try clear hfz9_2; try clear hfz9_3; try clear hfz9_4; try clear hfz9_5; try clear hx304_0; try clear hx304_1; try clear hx304_2; try clear hx304_3; try clear hx304_4; try clear hx304_5; try clear p304; try clear q304
   obtain ⟨kq, x26_6, rfl, HA, HJ6, BK305, HB⟩ := hcut
   cases kq with
   | zero => exact absurd HA.out (by simp [linkhouseref2_TypeCode.j0])
   | succ kj6 =>
    have H := HA.out
    clear HA
    simp only [linkhouseref2_TypeCode.j0] at H
    by_cases c14 : x26_6 = true
    ·subst c14
     have H1 : (some 12) = some r := by rw [if_pos rfl] at H; exact H
     replace H := H1; clear H1
     obtain rfl := Option.some.inj H
     go_wp2
     repeat (go_quiet (fail); try go_wp2)
     go_ret
     exact ⟨by first | rfl | (simp [errW_none, errW_some] <;> rfl) | (simp [*, errW_none, errW_some] <;> rfl), by repeat (first | (with_reducible first | exact HB.out | apply below_alloc | apply pw_below_drewN | apply below_drew1 | refine below_set ?_ GE305.out) | exact HB.out)⟩
    ·replace c14 := Bool.eq_false_iff.mpr c14
     subst c14
     have H1 : ((linkhouseref1_In.f ((rd_T32 l0 a1).f2) 0 1000000).bind fun t308 => (if t308 = true then ((linkhouseref1_In.f ((rd_T32 l0 a1).f4) 0 1000000).bind fun t309 => (if t309 = true then ((linkhouseref1_In.f ((rd_T32 l0 a1).f3) 0 (wrap64 ((l0.length : Int) - 1))).bind fun t310 => (linkhouseref2_TypeCode.j1 kj6 l0 a1 (!t310) ((rd_T32 l0 a1).f0) ((rd_T32 l0 a1).f1) ((rd_T32 l0 a1).f2) ((rd_T32 l0 a1).f3) ((rd_T32 l0 a1).f4) ((rd_T32 l0 a1).f5))) else (linkhouseref2_TypeCode.j1 kj6 l0 a1 true ((rd_T32 l0 a1).f0) ((rd_T32 l0 a1).f1) ((rd_T32 l0 a1).f2) ((rd_T32 l0 a1).f3) ((rd_T32 l0 a1).f4) ((rd_T32 l0 a1).f5)))) else (linkhouseref2_TypeCode.j1 kj6 l0 a1 true ((rd_T32 l0 a1).f0) ((rd_T32 l0 a1).f1) ((rd_T32 l0 a1).f2) ((rd_T32 l0 a1).f3) ((rd_T32 l0 a1).f4) ((rd_T32 l0 a1).f5)))) = some r := by rw [if_neg (show ¬ (false = true) by decide)] at H; exact H
     replace H := H1; clear H1
     have HC15 := Aside0.mk H
     clear H
     go_upto_region 6 with (fail)
     repeat (go_quiet (fail); go_upto_region 6 with (fail))
     go_cut [45] (fun v45 wc => ∃ (kq : Nat) (x45_14 : Bool), v45 = .bool x45_14 ∧ Aside0 (linkhouseref2_TypeCode.j1 kq l0 a1 x45_14 ((rd_T32 l0 a1).f0) ((rd_T32 l0 a1).f1) ((rd_T32 l0 a1).f2) ((rd_T32 l0 a1).f3) ((rd_T32 l0 a1).f4) ((rd_T32 l0 a1).f5) = some r) ∧ Aside0 (kq ≤ kj6) ∧ Aside0 (wc.heap[gb305]? = some (.cells #[.int .i64 ((rd_T32 l0 a1).f0), .string ((rd_T32 l0 a1).f1), .int .i64 ((rd_T32 l0 a1).f2), .int .i64 ((rd_T32 l0 a1).f3), .int .i64 ((rd_T32 l0 a1).f4), (.slice A304_5 ((rd_T32 l0 a1).f5).length c304_5)] 32 (0, 0))) ∧ Aside0 (Below w.heap.size w wc))
     case first =>
      have H := HC15.out
      clear HC15
      replace H := Option.bind_eq_some_iff.mp H
      obtain ⟨t308, A160, H⟩ := H
      replace H : (if t308 = true then ((linkhouseref1_In.f ((rd_T32 l0 a1).f4) 0 1000000).bind fun t309 => (if t309 = true then ((linkhouseref1_In.f ((rd_T32 l0 a1).f3) 0 (wrap64 ((l0.length : Int) - 1))).bind fun t310 => (linkhouseref2_TypeCode.j1 kj6 l0 a1 (!t310) ((rd_T32 l0 a1).f0) ((rd_T32 l0 a1).f1) ((rd_T32 l0 a1).f2) ((rd_T32 l0 a1).f3) ((rd_T32 l0 a1).f4) ((rd_T32 l0 a1).f5))) else (linkhouseref2_TypeCode.j1 kj6 l0 a1 true ((rd_T32 l0 a1).f0) ((rd_T32 l0 a1).f1) ((rd_T32 l0 a1).f2) ((rd_T32 l0 a1).f3) ((rd_T32 l0 a1).f4) ((rd_T32 l0 a1).f5)))) else (linkhouseref2_TypeCode.j1 kj6 l0 a1 true ((rd_T32 l0 a1).f0) ((rd_T32 l0 a1).f1) ((rd_T32 l0 a1).f2) ((rd_T32 l0 a1).f3) ((rd_T32 l0 a1).f4) ((rd_T32 l0 a1).f5))) = some r := H
      have A16 := Aside0.mk A160
      clear A160
      by_cases c17 : t308 = true
      ·subst c17
       have H1 : ((linkhouseref1_In.f ((rd_T32 l0 a1).f4) 0 1000000).bind fun t309 => (if t309 = true then ((linkhouseref1_In.f ((rd_T32 l0 a1).f3) 0 (wrap64 ((l0.length : Int) - 1))).bind fun t310 => (linkhouseref2_TypeCode.j1 kj6 l0 a1 (!t310) ((rd_T32 l0 a1).f0) ((rd_T32 l0 a1).f1) ((rd_T32 l0 a1).f2) ((rd_T32 l0 a1).f3) ((rd_T32 l0 a1).f4) ((rd_T32 l0 a1).f5))) else (linkhouseref2_TypeCode.j1 kj6 l0 a1 true ((rd_T32 l0 a1).f0) ((rd_T32 l0 a1).f1) ((rd_T32 l0 a1).f2) ((rd_T32 l0 a1).f3) ((rd_T32 l0 a1).f4) ((rd_T32 l0 a1).f5)))) = some r := by rw [if_pos rfl] at H; exact H
       replace H := H1; clear H1
       replace H := Option.bind_eq_some_iff.mp H
       obtain ⟨t309, A180, H⟩ := H
       replace H : (if t309 = true then ((linkhouseref1_In.f ((rd_T32 l0 a1).f3) 0 (wrap64 ((l0.length : Int) - 1))).bind fun t310 => (linkhouseref2_TypeCode.j1 kj6 l0 a1 (!t310) ((rd_T32 l0 a1).f0) ((rd_T32 l0 a1).f1) ((rd_T32 l0 a1).f2) ((rd_T32 l0 a1).f3) ((rd_T32 l0 a1).f4) ((rd_T32 l0 a1).f5))) else (linkhouseref2_TypeCode.j1 kj6 l0 a1 true ((rd_T32 l0 a1).f0) ((rd_T32 l0 a1).f1) ((rd_T32 l0 a1).f2) ((rd_T32 l0 a1).f3) ((rd_T32 l0 a1).f4) ((rd_T32 l0 a1).f5))) = some r := H
       have A18 := Aside0.mk A180
       clear A180
       by_cases c19 : t309 = true
       ·subst c19
        have H1 : ((linkhouseref1_In.f ((rd_T32 l0 a1).f3) 0 (wrap64 ((l0.length : Int) - 1))).bind fun t310 => (linkhouseref2_TypeCode.j1 kj6 l0 a1 (!t310) ((rd_T32 l0 a1).f0) ((rd_T32 l0 a1).f1) ((rd_T32 l0 a1).f2) ((rd_T32 l0 a1).f3) ((rd_T32 l0 a1).f4) ((rd_T32 l0 a1).f5))) = some r := by rw [if_pos rfl] at H; exact H
        replace H := H1; clear H1
        replace H := Option.bind_eq_some_iff.mp H
        obtain ⟨t310, A200, H⟩ := H
        replace H : (linkhouseref2_TypeCode.j1 kj6 l0 a1 (!t310) ((rd_T32 l0 a1).f0) ((rd_T32 l0 a1).f1) ((rd_T32 l0 a1).f2) ((rd_T32 l0 a1).f3) ((rd_T32 l0 a1).f4) ((rd_T32 l0 a1).f5)) = some r := H
        have A20 := Aside0.mk A200
        clear A200
        have H' := Aside0.mk H
        clear H
        obtain ⟨hcz21_0, hcz21_1, hcz21_2, hcz21_3, hcz21_4, hcz21_5, hfz21_0, hfz21_1, hfz21_2, hfz21_3, hfz21_4, hfz21_5⟩ := cells6 BK305.out
        go_wp2_with (first | (go_at_call 20; (with_reducible refine (linkhouseref1_In.calls ((rd_T32 l0 a1).f2) 0 1000000 true _ A16.out).mono ?_); rintro e w' ⟨rfl, ⟨nd, rfl⟩⟩; (try first | exact ⟨rfl, _, World.drewN_drewN _ _ _⟩ | exact ⟨rfl, _, Eq.trans (World.drewN_drewN _ _ _) (congrArg (World.drewN _) (Nat.add_assoc _ _ _))⟩)) | (go_at_call 20; (with_reducible refine (linkhouseref1_In.calls ((rd_T32 l0 a1).f4) 0 1000000 true _ A18.out).mono ?_); rintro e w' ⟨rfl, ⟨nd, rfl⟩⟩; (try first | exact ⟨rfl, _, World.drewN_drewN _ _ _⟩ | exact ⟨rfl, _, Eq.trans (World.drewN_drewN _ _ _) (congrArg (World.drewN _) (Nat.add_assoc _ _ _))⟩)) | (go_at_call 20; (with_reducible refine (linkhouseref1_In.calls ((rd_T32 l0 a1).f3) 0 (wrap64 ((l0.length : Int) - 1)) t310 _ A20.out).mono ?_); rintro e w' ⟨rfl, ⟨nd, rfl⟩⟩; (try first | exact ⟨rfl, _, World.drewN_drewN _ _ _⟩ | exact ⟨rfl, _, Eq.trans (World.drewN_drewN _ _ _) (congrArg (World.drewN _) (Nat.add_assoc _ _ _))⟩)))
        repeat (go_quiet (fail); try go_wp2)
        go_meet
        case rel => exact ⟨_, (!t310), (by first | rfl | (simp; done) | (simp [*]; done)), H', ⟨by have := HJ6.out; first | omega | exact Nat.le_refl _⟩, ⟨by (with_reducible repeat (first | refine blk_drewN ?_ _ | refine blk_drew ?_ | refine blk_alloc ?_ _)); exact BK305.out⟩, ⟨by repeat (first | (with_reducible first | exact HB.out | apply below_alloc | apply pw_below_drewN | apply below_drew1 | refine below_set ?_ GE305.out) | exact HB.out)⟩⟩
       ·replace c19 := Bool.eq_false_iff.mpr c19
        subst c19
        have H1 : (linkhouseref2_TypeCode.j1 kj6 l0 a1 true ((rd_T32 l0 a1).f0) ((rd_T32 l0 a1).f1) ((rd_T32 l0 a1).f2) ((rd_T32 l0 a1).f3) ((rd_T32 l0 a1).f4) ((rd_T32 l0 a1).f5)) = some r := by rw [if_neg (show ¬ (false = true) by decide)] at H; exact H
        replace H := H1; clear H1
        have H' := Aside0.mk H
        clear H
        obtain ⟨hcz22_0, hcz22_1, hcz22_2, hcz22_3, hcz22_4, hcz22_5, hfz22_0, hfz22_1, hfz22_2, hfz22_3, hfz22_4, hfz22_5⟩ := cells6 BK305.out
        go_wp2_with (first | (go_at_call 20; (with_reducible refine (linkhouseref1_In.calls ((rd_T32 l0 a1).f2) 0 1000000 true _ A16.out).mono ?_); rintro e w' ⟨rfl, ⟨nd, rfl⟩⟩; (try first | exact ⟨rfl, _, World.drewN_drewN _ _ _⟩ | exact ⟨rfl, _, Eq.trans (World.drewN_drewN _ _ _) (congrArg (World.drewN _) (Nat.add_assoc _ _ _))⟩)) | (go_at_call 20; (with_reducible refine (linkhouseref1_In.calls ((rd_T32 l0 a1).f4) 0 1000000 false _ A18.out).mono ?_); rintro e w' ⟨rfl, ⟨nd, rfl⟩⟩; (try first | exact ⟨rfl, _, World.drewN_drewN _ _ _⟩ | exact ⟨rfl, _, Eq.trans (World.drewN_drewN _ _ _) (congrArg (World.drewN _) (Nat.add_assoc _ _ _))⟩)))
        repeat (go_quiet (fail); try go_wp2)
        go_meet
        case rel => exact ⟨_, (true), (by first | rfl | (simp; done) | (simp [*]; done)), H', ⟨by have := HJ6.out; first | omega | exact Nat.le_refl _⟩, ⟨by (with_reducible repeat (first | refine blk_drewN ?_ _ | refine blk_drew ?_ | refine blk_alloc ?_ _)); exact BK305.out⟩, ⟨by repeat (first | (with_reducible first | exact HB.out | apply below_alloc | apply pw_below_drewN | apply below_drew1 | refine below_set ?_ GE305.out) | exact HB.out)⟩⟩
      ·replace c17 := Bool.eq_false_iff.mpr c17
       subst c17
       have H1 : (linkhouseref2_TypeCode.j1 kj6 l0 a1 true ((rd_T32 l0 a1).f0) ((rd_T32 l0 a1).f1) ((rd_T32 l0 a1).f2) ((rd_T32 l0 a1).f3) ((rd_T32 l0 a1).f4) ((rd_T32 l0 a1).f5)) = some r := by rw [if_neg (show ¬ (false = true) by decide)] at H; exact H
       replace H := H1; clear H1
       have H' := Aside0.mk H
       clear H
       obtain ⟨hcz23_0, hcz23_1, hcz23_2, hcz23_3, hcz23_4, hcz23_5, hfz23_0, hfz23_1, hfz23_2, hfz23_3, hfz23_4, hfz23_5⟩ := cells6 BK305.out
       go_wp2_with (first | (go_at_call 20; (with_reducible refine (linkhouseref1_In.calls ((rd_T32 l0 a1).f2) 0 1000000 false _ A16.out).mono ?_); rintro e w' ⟨rfl, ⟨nd, rfl⟩⟩; (try first | exact ⟨rfl, _, World.drewN_drewN _ _ _⟩ | exact ⟨rfl, _, Eq.trans (World.drewN_drewN _ _ _) (congrArg (World.drewN _) (Nat.add_assoc _ _ _))⟩)))
       repeat (go_quiet (fail); try go_wp2)
       go_meet
       case rel => exact ⟨_, (true), (by first | rfl | (simp; done) | (simp [*]; done)), H', ⟨by have := HJ6.out; first | omega | exact Nat.le_refl _⟩, ⟨by (with_reducible repeat (first | refine blk_drewN ?_ _ | refine blk_drew ?_ | refine blk_alloc ?_ _)); exact BK305.out⟩, ⟨by repeat (first | (with_reducible first | exact HB.out | apply below_alloc | apply pw_below_drewN | apply below_drew1 | refine below_set ?_ GE305.out) | exact HB.out)⟩⟩
     case rest =>
      as_aux_lemma =>
      clear HC15
      try clear c3; try clear c3b0; try clear c4; try clear c4b0; try clear c6; try clear c14; try clear hcz9_0; try clear hcz9_1; try clear hcz9_2; try clear hcz9_3; try clear hcz9_4; try clear hcz9_5; try clear hfz9_0; try clear hfz9_1; try clear hfz9_2; try clear hfz9_3; try clear hfz9_4; try clear hfz9_5; try clear hx304_0; try clear hx304_1; try clear hx304_2; try clear hx304_3; try clear hx304_4; try clear hx304_5; try clear p304; try clear q304
      obtain ⟨kq, x45_14, rfl, HA, HJ14, BK305, HB⟩ := hcut
      cases kq with
      | zero => exact absurd HA.out (by simp [linkhouseref2_TypeCode.j1])
      | succ kj14 =>
       have H := HA.out
       clear HA
       simp only [linkhouseref2_TypeCode.j1] at H
       by_cases c24 : x45_14 = true
       ·subst c24
        have H1 : (some 3) = some r := by rw [if_pos rfl] at H; exact H
        replace H := H1; clear H1
        obtain rfl := Option.some.inj H
        go_wp2
        repeat (go_quiet (fail); try go_wp2)
        go_ret
        exact ⟨by first | rfl | (simp [errW_none, errW_some] <;> rfl) | (simp [*, errW_none, errW_some] <;> rfl), by repeat (first | (with_reducible first | exact HB.out | apply below_alloc | apply pw_below_drewN | apply below_drew1 | refine below_set ?_ GE305.out) | exact HB.out)⟩
       ·replace c24 := Bool.eq_false_iff.mpr c24
        subst c24
        have H1 : (if ((rd_T32 l0 a1).f4) = 0 then (if (((rd_T32 l0 a1).f5).length : Int) > 0 then (if ((rd_T32 l0 a1).f0) = 4 then (if ((rd_T32 l0 a1).f3) = 0 then (linkhouseref2_TypeCode.j2 kj14 l0 a1 false ((rd_T32 l0 a1).f0) ((rd_T32 l0 a1).f1) ((rd_T32 l0 a1).f2) ((rd_T32 l0 a1).f3) ((rd_T32 l0 a1).f4) ((rd_T32 l0 a1).f5)) else (if ((rd_T32 l0 a1).f0) = 1 then (linkhouseref2_TypeCode.j2 kj14 l0 a1 true ((rd_T32 l0 a1).f0) ((rd_T32 l0 a1).f1) ((rd_T32 l0 a1).f2) ((rd_T32 l0 a1).f3) ((rd_T32 l0 a1).f4) ((rd_T32 l0 a1).f5)) else (linkhouseref2_TypeCode.j2 kj14 l0 a1 (((rd_T32 l0 a1).f0) == 4) ((rd_T32 l0 a1).f0) ((rd_T32 l0 a1).f1) ((rd_T32 l0 a1).f2) ((rd_T32 l0 a1).f3) ((rd_T32 l0 a1).f4) ((rd_T32 l0 a1).f5)))) else (linkhouseref2_TypeCode.j2 kj14 l0 a1 true ((rd_T32 l0 a1).f0) ((rd_T32 l0 a1).f1) ((rd_T32 l0 a1).f2) ((rd_T32 l0 a1).f3) ((rd_T32 l0 a1).f4) ((rd_T32 l0 a1).f5))) else (if ((rd_T32 l0 a1).f3) = 0 then (linkhouseref2_TypeCode.j2 kj14 l0 a1 false ((rd_T32 l0 a1).f0) ((rd_T32 l0 a1).f1) ((rd_T32 l0 a1).f2) ((rd_T32 l0 a1).f3) ((rd_T32 l0 a1).f4) ((rd_T32 l0 a1).f5)) else (if ((rd_T32 l0 a1).f0) = 1 then (linkhouseref2_TypeCode.j2 kj14 l0 a1 true ((rd_T32 l0 a1).f0) ((rd_T32 l0 a1).f1) ((rd_T32 l0 a1).f2) ((rd_T32 l0 a1).f3) ((rd_T32 l0 a1).f4) ((rd_T32 l0 a1).f5)) else (linkhouseref2_TypeCode.j2 kj14 l0 a1 (((rd_T32 l0 a1).f0) == 4) ((rd_T32 l0 a1).f0) ((rd_T32 l0 a1).f1) ((rd_T32 l0 a1).f2) ((rd_T32 l0 a1).f3) ((rd_T32 l0 a1).f4) ((rd_T32 l0 a1).f5))))) else (if ((rd_T32 l0 a1).f0) = 3 then (if (((rd_T32 l0 a1).f5).length : Int) > 0 then (if ((rd_T32 l0 a1).f0) = 4 then (if ((rd_T32 l0 a1).f3) = 0 then (linkhouseref2_TypeCode.j2 kj14 l0 a1 false ((rd_T32 l0 a1).f0) ((rd_T32 l0 a1).f1) ((rd_T32 l0 a1).f2) ((rd_T32 l0 a1).f3) ((rd_T32 l0 a1).f4) ((rd_T32 l0 a1).f5)) else (if ((rd_T32 l0 a1).f0) = 1 then (linkhouseref2_TypeCode.j2 kj14 l0 a1 true ((rd_T32 l0 a1).f0) ((rd_T32 l0 a1).f1) ((rd_T32 l0 a1).f2) ((rd_T32 l0 a1).f3) ((rd_T32 l0 a1).f4) ((rd_T32 l0 a1).f5)) else (linkhouseref2_TypeCode.j2 kj14 l0 a1 (((rd_T32 l0 a1).f0) == 4) ((rd_T32 l0 a1).f0) ((rd_T32 l0 a1).f1) ((rd_T32 l0 a1).f2) ((rd_T32 l0 a1).f3) ((rd_T32 l0 a1).f4) ((rd_T32 l0 a1).f5)))) else (linkhouseref2_TypeCode.j2 kj14 l0 a1 true ((rd_T32 l0 a1).f0) ((rd_T32 l0 a1).f1) ((rd_T32 l0 a1).f2) ((rd_T32 l0 a1).f3) ((rd_T32 l0 a1).f4) ((rd_T32 l0 a1).f5))) else (if ((rd_T32 l0 a1).f3) = 0 then (linkhouseref2_TypeCode.j2 kj14 l0 a1 false ((rd_T32 l0 a1).f0) ((rd_T32 l0 a1).f1) ((rd_T32 l0 a1).f2) ((rd_T32 l0 a1).f3) ((rd_T32 l0 a1).f4) ((rd_T32 l0 a1).f5)) else (if ((rd_T32 l0 a1).f0) = 1 then (linkhouseref2_TypeCode.j2 kj14 l0 a1 true ((rd_T32 l0 a1).f0) ((rd_T32 l0 a1).f1) ((rd_T32 l0 a1).f2) ((rd_T32 l0 a1).f3) ((rd_T32 l0 a1).f4) ((rd_T32 l0 a1).f5)) else (linkhouseref2_TypeCode.j2 kj14 l0 a1 (((rd_T32 l0 a1).f0) == 4) ((rd_T32 l0 a1).f0) ((rd_T32 l0 a1).f1) ((rd_T32 l0 a1).f2) ((rd_T32 l0 a1).f3) ((rd_T32 l0 a1).f4) ((rd_T32 l0 a1).f5))))) else (linkhouseref2_TypeCode.j2 kj14 l0 a1 true ((rd_T32 l0 a1).f0) ((rd_T32 l0 a1).f1) ((rd_T32 l0 a1).f2) ((rd_T32 l0 a1).f3) ((rd_T32 l0 a1).f4) ((rd_T32 l0 a1).f5)))) = some r := by rw [if_neg (show ¬ (false = true) by decide)] at H; exact H
        replace H := H1; clear H1
        have HC25 := Aside0.mk H
        clear H
        go_upto_region 8 with (fail)
        repeat (go_quiet (fail); go_upto_region 8 with (fail))
        go_cut [79] (fun v79 wc => ∃ (kq : Nat) (x79_24 : Bool), v79 = .bool x79_24 ∧ Aside0 (linkhouseref2_TypeCode.j2 kq l0 a1 x79_24 ((rd_T32 l0 a1).f0) ((rd_T32 l0 a1).f1) ((rd_T32 l0 a1).f2) ((rd_T32 l0 a1).f3) ((rd_T32 l0 a1).f4) ((rd_T32 l0 a1).f5) = some r) ∧ Aside0 (kq ≤ kj14) ∧ Aside0 (wc.heap[gb305]? = some (.cells #[.int .i64 ((rd_T32 l0 a1).f0), .string ((rd_T32 l0 a1).f1), .int .i64 ((rd_T32 l0 a1).f2), .int .i64 ((rd_T32 l0 a1).f3), .int .i64 ((rd_T32 l0 a1).f4), (.slice A304_5 ((rd_T32 l0 a1).f5).length c304_5)] 32 (0, 0))) ∧ Aside0 (Below w.heap.size w wc))
        case first =>
         have H := HC25.out
         clear HC25
         by_cases c26 : ((rd_T32 l0 a1).f4) = 0
         ·rw [if_pos c26] at H
          have c26b0 : (((rd_T32 l0 a1).f4) == 0) = true := beq_iff_eq.mpr c26
          have c26b1 : (((rd_T32 l0 a1).f4) != 0) = false := bne_eq_false_iff_eq.mpr c26
          clear c26
          (first | rw [c26b0] | (simp only [i64_w, i32_w]; rw [c26b0]) | skip)
          by_cases c27 : (((rd_T32 l0 a1).f5).length : Int) > 0
          ·rw [if_pos c27] at H
           have c27b0 : decide (0 < (((rd_T32 l0 a1).f5).length : Int)) = true := decide_eq_true c27
           have c27b1 : decide (0 < ((rd_T32 l0 a1).f5).length) = true := decide_eq_true (by omega)
           clear c27
           by_cases c28 : ((rd_T32 l0 a1).f0) = 4
           ·rw [if_pos c28] at H
            have c28b0 : (((rd_T32 l0 a1).f0) == 4) = true := beq_iff_eq.mpr c28
            have c28b1 : (((rd_T32 l0 a1).f0) != 4) = false := bne_eq_false_iff_eq.mpr c28
            clear c28
            by_cases c29 : ((rd_T32 l0 a1).f3) = 0
            ·rw [if_pos c29] at H
             have c29b0 : (((rd_T32 l0 a1).f3) == 0) = true := beq_iff_eq.mpr c29
             have c29b1 : (((rd_T32 l0 a1).f3) != 0) = false := bne_eq_false_iff_eq.mpr c29
             clear c29
             have H' := Aside0.mk H
             clear H
             obtain ⟨hcz30_0, hcz30_1, hcz30_2, hcz30_3, hcz30_4, hcz30_5, hfz30_0, hfz30_1, hfz30_2, hfz30_3, hfz30_4, hfz30_5⟩ := cells6 BK305.out
             go_wp2
             repeat (go_quiet (fail); try go_wp2)
             go_meet
             case rel => exact ⟨_, (false), (by first | rfl | (simp; done) | (simp [*]; done)), H', ⟨by have := HJ6.out; have := HJ14.out; first | omega | exact Nat.le_refl _⟩, ⟨by (with_reducible repeat (first | refine blk_drewN ?_ _ | refine blk_drew ?_ | refine blk_alloc ?_ _)); exact BK305.out⟩, ⟨by repeat (first | (with_reducible first | exact HB.out | apply below_alloc | apply pw_below_drewN | apply below_drew1 | refine below_set ?_ GE305.out) | exact HB.out)⟩⟩
            ·rw [if_neg c29] at H
             have c29b0 : (((rd_T32 l0 a1).f3) == 0) = false := beq_eq_false_iff_ne.mpr c29
             have c29b1 : (((rd_T32 l0 a1).f3) != 0) = true := bne_iff_ne.mpr c29
             by_cases c31 : ((rd_T32 l0 a1).f0) = 1
             ·rw [if_pos c31] at H
              have c31b0 : (((rd_T32 l0 a1).f0) == 1) = true := beq_iff_eq.mpr c31
              have c31b1 : (((rd_T32 l0 a1).f0) != 1) = false := bne_eq_false_iff_eq.mpr c31
              clear c31
              have H' := Aside0.mk H
              clear H
              obtain ⟨hcz32_0, hcz32_1, hcz32_2, hcz32_3, hcz32_4, hcz32_5, hfz32_0, hfz32_1, hfz32_2, hfz32_3, hfz32_4, hfz32_5⟩ := cells6 BK305.out
              go_wp2
              repeat (go_quiet (fail); try go_wp2)
              go_meet
              case rel => exact ⟨_, (true), (by first | rfl | (simp; done) | (simp [*]; done)), H', ⟨by have := HJ6.out; have := HJ14.out; first | omega | exact Nat.le_refl _⟩, ⟨by (with_reducible repeat (first | refine blk_drewN ?_ _ | refine blk_drew ?_ | refine blk_alloc ?_ _)); exact BK305.out⟩, ⟨by repeat (first | (with_reducible first | exact HB.out | apply below_alloc | apply pw_below_drewN | apply below_drew1 | refine below_set ?_ GE305.out) | exact HB.out)⟩⟩
             ·rw [if_neg c31] at H
              have c31b0 : (((rd_T32 l0 a1).f0) == 1) = false := beq_eq_false_iff_ne.mpr c31
              have c31b1 : (((rd_T32 l0 a1).f0) != 1) = true := bne_iff_ne.mpr c31
              have H' := Aside0.mk H
              clear H
              obtain ⟨hcz33_0, hcz33_1, hcz33_2, hcz33_3, hcz33_4, hcz33_5, hfz33_0, hfz33_1, hfz33_2, hfz33_3, hfz33_4, hfz33_5⟩ := cells6 BK305.out
              go_wp2
              repeat (go_quiet (fail); try go_wp2)
              go_meet
              case rel => exact ⟨_, ((((rd_T32 l0 a1).f0) == 4)), (by first | rfl | (simp; done) | (simp [*]; done)), H', ⟨by have := HJ6.out; have := HJ14.out; first | omega | exact Nat.le_refl _⟩, ⟨by (with_reducible repeat (first | refine blk_drewN ?_ _ | refine blk_drew ?_ | refine blk_alloc ?_ _)); exact BK305.out⟩, ⟨by repeat (first | (with_reducible first | exact HB.out | apply below_alloc | apply pw_below_drewN | apply below_drew1 | refine below_set ?_ GE305.out) | exact HB.out)⟩⟩
           ·rw [if_neg c28] at H
            have c28b0 : (((rd_T32 l0 a1).f0) == 4) = false := beq_eq_false_iff_ne.mpr c28
            have c28b1 : (((rd_T32 l0 a1).f0) != 4) = true := bne_iff_ne.mpr c28
            have H' := Aside0.mk H
            clear H
            obtain ⟨hcz34_0, hcz34_1, hcz34_2, hcz34_3, hcz34_4, hcz34_5, hfz34_0, hfz34_1, hfz34_2, hfz34_3, hfz34_4, hfz34_5⟩ := cells6 BK305.out
            go_wp2
            repeat (go_quiet (fail); try go_wp2)
            go_meet
            case rel => exact ⟨_, (true), (by first | rfl | (simp; done) | (simp [*]; done)), H', ⟨by have := HJ6.out; have := HJ14.out; first | omega | exact Nat.le_refl _⟩, ⟨by (with_reducible repeat (first | refine blk_drewN ?_ _ | refine blk_drew ?_ | refine blk_alloc ?_ _)); exact BK305.out⟩, ⟨by repeat (first | (with_reducible first | exact HB.out | apply below_alloc | apply pw_below_drewN | apply below_drew1 | refine below_set ?_ GE305.out) | exact HB.out)⟩⟩
          ·rw [if_neg c27] at H
           have c27b0 : decide (0 < (((rd_T32 l0 a1).f5).length : Int)) = false := decide_eq_false c27
           have c27b1 : decide (0 < ((rd_T32 l0 a1).f5).length) = false := decide_eq_false (by omega)
           clear c27
           by_cases c35 : ((rd_T32 l0 a1).f3) = 0
           ·rw [if_pos c35] at H
            have c35b0 : (((rd_T32 l0 a1).f3) == 0) = true := beq_iff_eq.mpr c35
            have c35b1 : (((rd_T32 l0 a1).f3) != 0) = false := bne_eq_false_iff_eq.mpr c35
            clear c35
            have H' := Aside0.mk H
            clear H
            obtain ⟨hcz36_0, hcz36_1, hcz36_2, hcz36_3, hcz36_4, hcz36_5, hfz36_0, hfz36_1, hfz36_2, hfz36_3, hfz36_4, hfz36_5⟩ := cells6 BK305.out
            go_wp2
            repeat (go_quiet (fail); try go_wp2)
            go_meet
            case rel => exact ⟨_, (false), (by first | rfl | (simp; done) | (simp [*]; done)), H', ⟨by have := HJ6.out; have := HJ14.out; first | omega | exact Nat.le_refl _⟩, ⟨by (with_reducible repeat (first | refine blk_drewN ?_ _ | refine blk_drew ?_ | refine blk_alloc ?_ _)); exact BK305.out⟩, ⟨by repeat (first | (with_reducible first | exact HB.out | apply below_alloc | apply pw_below_drewN | apply below_drew1 | refine below_set ?_ GE305.out) | exact HB.out)⟩⟩
           ·rw [if_neg c35] at H
            have c35b0 : (((rd_T32 l0 a1).f3) == 0) = false := beq_eq_false_iff_ne.mpr c35
            have c35b1 : (((rd_T32 l0 a1).f3) != 0) = true := bne_iff_ne.mpr c35
            by_cases c37 : ((rd_T32 l0 a1).f0) = 1
            ·rw [if_pos c37] at H
             have c37b0 : (((rd_T32 l0 a1).f0) == 1) = true := beq_iff_eq.mpr c37
             have c37b1 : (((rd_T32 l0 a1).f0) != 1) = false := bne_eq_false_iff_eq.mpr c37
             clear c37
             have H' := Aside0.mk H
             clear H
             obtain ⟨hcz38_0, hcz38_1, hcz38_2, hcz38_3, hcz38_4, hcz38_5, hfz38_0, hfz38_1, hfz38_2, hfz38_3, hfz38_4, hfz38_5⟩ := cells6 BK305.out
             go_wp2
             repeat (go_quiet (fail); try go_wp2)
             go_meet
             case rel => exact ⟨_, (true), (by first | rfl | (simp; done) | (simp [*]; done)), H', ⟨by have := HJ6.out; have := HJ14.out; first | omega | exact Nat.le_refl _⟩, ⟨by (with_reducible repeat (first | refine blk_drewN ?_ _ | refine blk_drew ?_ | refine blk_alloc ?_ _)); exact BK305.out⟩, ⟨by repeat (first | (with_reducible first | exact HB.out | apply below_alloc | apply pw_below_drewN | apply below_drew1 | refine below_set ?_ GE305.out) | exact HB.out)⟩⟩
            ·rw [if_neg c37] at H
             have c37b0 : (((rd_T32 l0 a1).f0) == 1) = false := beq_eq_false_iff_ne.mpr c37
             have c37b1 : (((rd_T32 l0 a1).f0) != 1) = true := bne_iff_ne.mpr c37
             have H' := Aside0.mk H
             clear H
             obtain ⟨hcz39_0, hcz39_1, hcz39_2, hcz39_3, hcz39_4, hcz39_5, hfz39_0, hfz39_1, hfz39_2, hfz39_3, hfz39_4, hfz39_5⟩ := cells6 BK305.out
             go_wp2
             repeat (go_quiet (fail); try go_wp2)
             go_meet
             case rel => exact ⟨_, ((((rd_T32 l0 a1).f0) == 4)), (by first | rfl | (simp; done) | (simp [*]; done)), H', ⟨by have := HJ6.out; have := HJ14.out; first | omega | exact Nat.le_refl _⟩, ⟨by (with_reducible repeat (first | refine blk_drewN ?_ _ | refine blk_drew ?_ | refine blk_alloc ?_ _)); exact BK305.out⟩, ⟨by repeat (first | (with_reducible first | exact HB.out | apply below_alloc | apply pw_below_drewN | apply below_drew1 | refine below_set ?_ GE305.out) | exact HB.out)⟩⟩
         ·rw [if_neg c26] at H
          have c26b0 : (((rd_T32 l0 a1).f4) == 0) = false := beq_eq_false_iff_ne.mpr c26
          have c26b1 : (((rd_T32 l0 a1).f4) != 0) = true := bne_iff_ne.mpr c26
          (first | rw [c26b0] | (simp only [i64_w, i32_w]; rw [c26b0]) | skip)
          by_cases c40 : ((rd_T32 l0 a1).f0) = 3
          ·rw [if_pos c40] at H
           have c40b0 : (((rd_T32 l0 a1).f0) == 3) = true := beq_iff_eq.mpr c40
           have c40b1 : (((rd_T32 l0 a1).f0) != 3) = false := bne_eq_false_iff_eq.mpr c40
           clear c40
           by_cases c41 : (((rd_T32 l0 a1).f5).length : Int) > 0
           ·rw [if_pos c41] at H
            have c41b0 : decide (0 < (((rd_T32 l0 a1).f5).length : Int)) = true := decide_eq_true c41
            have c41b1 : decide (0 < ((rd_T32 l0 a1).f5).length) = true := decide_eq_true (by omega)
            clear c41
            by_cases c42 : ((rd_T32 l0 a1).f0) = 4
            ·rw [if_pos c42] at H
             have c42b0 : (((rd_T32 l0 a1).f0) == 4) = true := beq_iff_eq.mpr c42
             have c42b1 : (((rd_T32 l0 a1).f0) != 4) = false := bne_eq_false_iff_eq.mpr c42
             clear c42
             by_cases c43 : ((rd_T32 l0 a1).f3) = 0
             ·rw [if_pos c43] at H
              have c43b0 : (((rd_T32 l0 a1).f3) == 0) = true := beq_iff_eq.mpr c43
              have c43b1 : (((rd_T32 l0 a1).f3) != 0) = false := bne_eq_false_iff_eq.mpr c43
              clear c43
              have H' := Aside0.mk H
              clear H
              obtain ⟨hcz44_0, hcz44_1, hcz44_2, hcz44_3, hcz44_4, hcz44_5, hfz44_0, hfz44_1, hfz44_2, hfz44_3, hfz44_4, hfz44_5⟩ := cells6 BK305.out
              go_wp2
              repeat (go_quiet (fail); try go_wp2)
              go_meet
              case rel => exact ⟨_, (false), (by first | rfl | (simp; done) | (simp [*]; done)), H', ⟨by have := HJ6.out; have := HJ14.out; first | omega | exact Nat.le_refl _⟩, ⟨by (with_reducible repeat (first | refine blk_drewN ?_ _ | refine blk_drew ?_ | refine blk_alloc ?_ _)); exact BK305.out⟩, ⟨by repeat (first | (with_reducible first | exact HB.out | apply below_alloc | apply pw_below_drewN | apply below_drew1 | refine below_set ?_ GE305.out) | exact HB.out)⟩⟩
             ·rw [if_neg c43] at H
              have c43b0 : (((rd_T32 l0 a1).f3) == 0) = false := beq_eq_false_iff_ne.mpr c43
              have c43b1 : (((rd_T32 l0 a1).f3) != 0) = true := bne_iff_ne.mpr c43
              by_cases c45 : ((rd_T32 l0 a1).f0) = 1
              ·rw [if_pos c45] at H
               have c45b0 : (((rd_T32 l0 a1).f0) == 1) = true := beq_iff_eq.mpr c45
               have c45b1 : (((rd_T32 l0 a1).f0) != 1) = false := bne_eq_false_iff_eq.mpr c45
               clear c45
               have H' := Aside0.mk H
               clear H
               obtain ⟨hcz46_0, hcz46_1, hcz46_2, hcz46_3, hcz46_4, hcz46_5, hfz46_0, hfz46_1, hfz46_2, hfz46_3, hfz46_4, hfz46_5⟩ := cells6 BK305.out
               go_wp2
               repeat (go_quiet (fail); try go_wp2)
               go_meet
               case rel => exact ⟨_, (true), (by first | rfl | (simp; done) | (simp [*]; done)), H', ⟨by have := HJ6.out; have := HJ14.out; first | omega | exact Nat.le_refl _⟩, ⟨by (with_reducible repeat (first | refine blk_drewN ?_ _ | refine blk_drew ?_ | refine blk_alloc ?_ _)); exact BK305.out⟩, ⟨by repeat (first | (with_reducible first | exact HB.out | apply below_alloc | apply pw_below_drewN | apply below_drew1 | refine below_set ?_ GE305.out) | exact HB.out)⟩⟩
              ·rw [if_neg c45] at H
               have c45b0 : (((rd_T32 l0 a1).f0) == 1) = false := beq_eq_false_iff_ne.mpr c45
               have c45b1 : (((rd_T32 l0 a1).f0) != 1) = true := bne_iff_ne.mpr c45
               have H' := Aside0.mk H
               clear H
               obtain ⟨hcz47_0, hcz47_1, hcz47_2, hcz47_3, hcz47_4, hcz47_5, hfz47_0, hfz47_1, hfz47_2, hfz47_3, hfz47_4, hfz47_5⟩ := cells6 BK305.out
               go_wp2
               repeat (go_quiet (fail); try go_wp2)
               go_meet
               case rel => exact ⟨_, ((((rd_T32 l0 a1).f0) == 4)), (by first | rfl | (simp; done) | (simp [*]; done)), H', ⟨by have := HJ6.out; have := HJ14.out; first | omega | exact Nat.le_refl _⟩, ⟨by (with_reducible repeat (first | refine blk_drewN ?_ _ | refine blk_drew ?_ | refine blk_alloc ?_ _)); exact BK305.out⟩, ⟨by repeat (first | (with_reducible first | exact HB.out | apply below_alloc | apply pw_below_drewN | apply below_drew1 | refine below_set ?_ GE305.out) | exact HB.out)⟩⟩
            ·rw [if_neg c42] at H
             have c42b0 : (((rd_T32 l0 a1).f0) == 4) = false := beq_eq_false_iff_ne.mpr c42
             have c42b1 : (((rd_T32 l0 a1).f0) != 4) = true := bne_iff_ne.mpr c42
             have H' := Aside0.mk H
             clear H
             obtain ⟨hcz48_0, hcz48_1, hcz48_2, hcz48_3, hcz48_4, hcz48_5, hfz48_0, hfz48_1, hfz48_2, hfz48_3, hfz48_4, hfz48_5⟩ := cells6 BK305.out
             go_wp2
             repeat (go_quiet (fail); try go_wp2)
             go_meet
             case rel => exact ⟨_, (true), (by first | rfl | (simp; done) | (simp [*]; done)), H', ⟨by have := HJ6.out; have := HJ14.out; first | omega | exact Nat.le_refl _⟩, ⟨by (with_reducible repeat (first | refine blk_drewN ?_ _ | refine blk_drew ?_ | refine blk_alloc ?_ _)); exact BK305.out⟩, ⟨by repeat (first | (with_reducible first | exact HB.out | apply below_alloc | apply pw_below_drewN | apply below_drew1 | refine below_set ?_ GE305.out) | exact HB.out)⟩⟩
           ·rw [if_neg c41] at H
            have c41b0 : decide (0 < (((rd_T32 l0 a1).f5).length : Int)) = false := decide_eq_false c41
            have c41b1 : decide (0 < ((rd_T32 l0 a1).f5).length) = false := decide_eq_false (by omega)
            clear c41
            by_cases c49 : ((rd_T32 l0 a1).f3) = 0
            ·rw [if_pos c49] at H
             have c49b0 : (((rd_T32 l0 a1).f3) == 0) = true := beq_iff_eq.mpr c49
             have c49b1 : (((rd_T32 l0 a1).f3) != 0) = false := bne_eq_false_iff_eq.mpr c49
             clear c49
             have H' := Aside0.mk H
             clear H
             obtain ⟨hcz50_0, hcz50_1, hcz50_2, hcz50_3, hcz50_4, hcz50_5, hfz50_0, hfz50_1, hfz50_2, hfz50_3, hfz50_4, hfz50_5⟩ := cells6 BK305.out
             go_wp2
             repeat (go_quiet (fail); try go_wp2)
             go_meet
             case rel => exact ⟨_, (false), (by first | rfl | (simp; done) | (simp [*]; done)), H', ⟨by have := HJ6.out; have := HJ14.out; first | omega | exact Nat.le_refl _⟩, ⟨by (with_reducible repeat (first | refine blk_drewN ?_ _ | refine blk_drew ?_ | refine blk_alloc ?_ _)); exact BK305.out⟩, ⟨by repeat (first | (with_reducible first | exact HB.out | apply below_alloc | apply pw_below_drewN | apply below_drew1 | refine below_set ?_ GE305.out) | exact HB.out)⟩⟩
            ·rw [if_neg c49] at H
             have c49b0 : (((rd_T32 l0 a1).f3) == 0) = false := beq_eq_false_iff_ne.mpr c49
             have c49b1 : (((rd_T32 l0 a1).f3) != 0) = true := bne_iff_ne.mpr c49
             by_cases c51 : ((rd_T32 l0 a1).f0) = 1
             ·rw [if_pos c51] at H
              have c51b0 : (((rd_T32 l0 a1).f0) == 1) = true := beq_iff_eq.mpr c51
              have c51b1 : (((rd_T32 l0 a1).f0) != 1) = false := bne_eq_false_iff_eq.mpr c51
              clear c51
              have H' := Aside0.mk H
              clear H
              obtain ⟨hcz52_0, hcz52_1, hcz52_2, hcz52_3, hcz52_4, hcz52_5, hfz52_0, hfz52_1, hfz52_2, hfz52_3, hfz52_4, hfz52_5⟩ := cells6 BK305.out
              go_wp2
              repeat (go_quiet (fail); try go_wp2)
              go_meet
              case rel => exact ⟨_, (true), (by first | rfl | (simp; done) | (simp [*]; done)), H', ⟨by have := HJ6.out; have := HJ14.out; first | omega | exact Nat.le_refl _⟩, ⟨by (with_reducible repeat (first | refine blk_drewN ?_ _ | refine blk_drew ?_ | refine blk_alloc ?_ _)); exact BK305.out⟩, ⟨by repeat (first | (with_reducible first | exact HB.out | apply below_alloc | apply pw_below_drewN | apply below_drew1 | refine below_set ?_ GE305.out) | exact HB.out)⟩⟩
             ·rw [if_neg c51] at H
              have c51b0 : (((rd_T32 l0 a1).f0) == 1) = false := beq_eq_false_iff_ne.mpr c51
              have c51b1 : (((rd_T32 l0 a1).f0) != 1) = true := bne_iff_ne.mpr c51
              have H' := Aside0.mk H
              clear H
              obtain ⟨hcz53_0, hcz53_1, hcz53_2, hcz53_3, hcz53_4, hcz53_5, hfz53_0, hfz53_1, hfz53_2, hfz53_3, hfz53_4, hfz53_5⟩ := cells6 BK305.out
              go_wp2
              repeat (go_quiet (fail); try go_wp2)
              go_meet
              case rel => exact ⟨_, ((((rd_T32 l0 a1).f0) == 4)), (by first | rfl | (simp; done) | (simp [*]; done)), H', ⟨by have := HJ6.out; have := HJ14.out; first | omega | exact Nat.le_refl _⟩, ⟨by (with_reducible repeat (first | refine blk_drewN ?_ _ | refine blk_drew ?_ | refine blk_alloc ?_ _)); exact BK305.out⟩, ⟨by repeat (first | (with_reducible first | exact HB.out | apply below_alloc | apply pw_below_drewN | apply below_drew1 | refine below_set ?_ GE305.out) | exact HB.out)⟩⟩
          ·rw [if_neg c40] at H
           have c40b0 : (((rd_T32 l0 a1).f0) == 3) = false := beq_eq_false_iff_ne.mpr c40
           have c40b1 : (((rd_T32 l0 a1).f0) != 3) = true := bne_iff_ne.mpr c40
           have H' := Aside0.mk H
           clear H
           obtain ⟨hcz54_0, hcz54_1, hcz54_2, hcz54_3, hcz54_4, hcz54_5, hfz54_0, hfz54_1, hfz54_2, hfz54_3, hfz54_4, hfz54_5⟩ := cells6 BK305.out
           go_wp2
           repeat (go_quiet (fail); try go_wp2)
           go_meet
           case rel => exact ⟨_, (true), (by first | rfl | (simp; done) | (simp [*]; done)), H', ⟨by have := HJ6.out; have := HJ14.out; first | omega | exact Nat.le_refl _⟩, ⟨by (with_reducible repeat (first | refine blk_drewN ?_ _ | refine blk_drew ?_ | refine blk_alloc ?_ _)); exact BK305.out⟩, ⟨by repeat (first | (with_reducible first | exact HB.out | apply below_alloc | apply pw_below_drewN | apply below_drew1 | refine below_set ?_ GE305.out) | exact HB.out)⟩⟩
        case rest =>
         as_aux_lemma =>
         clear HC25
         try clear c3; try clear c3b0; try clear c4; try clear c4b0; try clear c6; try clear c14; try clear c24; try clear hcz9_0; try clear hcz9_1; try clear hcz9_2; try clear hcz9_3; try clear hcz9_4; try clear hcz9_5; try clear hfz9_0; try clear hfz9_1; try clear hfz9_2; try clear hfz9_3; try clear hfz9_4; try clear hfz9_5; try clear hx304_0; try clear hx304_1; try clear hx304_2; try clear hx304_3; try clear hx304_4; try clear hx304_5; try clear p304; try clear q304
         obtain ⟨kq, x79_24, rfl, HA, HJ24, BK305, HB⟩ := hcut
         cases kq with
         | zero => exact absurd HA.out (by simp [linkhouseref2_TypeCode.j2])
         | succ kj24 =>
          have H := HA.out
          clear HA
          simp only [linkhouseref2_TypeCode.j2] at H
          by_cases c55 : x79_24 = true
          ·subst c55
           have H1 : (some 5) = some r := by rw [if_pos rfl] at H; exact H
           replace H := H1; clear H1
           obtain rfl := Option.some.inj H
           go_wp2
           repeat (go_quiet (fail); try go_wp2)
           go_ret
           exact ⟨by first | rfl | (simp [errW_none, errW_some] <;> rfl) | (simp [*, errW_none, errW_some] <;> rfl), by repeat (first | (with_reducible first | exact HB.out | apply below_alloc | apply pw_below_drewN | apply below_drew1 | refine below_set ?_ GE305.out) | exact HB.out)⟩
          ·replace c55 := Bool.eq_false_iff.mpr c55
           subst c55
           have H1 : (if ((rd_T32 l0 a1).f0) = 1 then (if ((rd_T32 l0 a1).f2) = 1 then (if ((rd_T32 l0 a1).f0) = 2 then (linkhouseref2_TypeCode.j3 kj24 l0 a1 (((rd_T32 l0 a1).f2) != 4) ((rd_T32 l0 a1).f0) ((rd_T32 l0 a1).f1) ((rd_T32 l0 a1).f2) ((rd_T32 l0 a1).f3) ((rd_T32 l0 a1).f4) ((rd_T32 l0 a1).f5)) else (linkhouseref2_TypeCode.j3 kj24 l0 a1 false ((rd_T32 l0 a1).f0) ((rd_T32 l0 a1).f1) ((rd_T32 l0 a1).f2) ((rd_T32 l0 a1).f3) ((rd_T32 l0 a1).f4) ((rd_T32 l0 a1).f5))) else (if ((rd_T32 l0 a1).f2) = 4 then (if ((rd_T32 l0 a1).f0) = 2 then (linkhouseref2_TypeCode.j3 kj24 l0 a1 (((rd_T32 l0 a1).f2) != 4) ((rd_T32 l0 a1).f0) ((rd_T32 l0 a1).f1) ((rd_T32 l0 a1).f2) ((rd_T32 l0 a1).f3) ((rd_T32 l0 a1).f4) ((rd_T32 l0 a1).f5)) else (linkhouseref2_TypeCode.j3 kj24 l0 a1 false ((rd_T32 l0 a1).f0) ((rd_T32 l0 a1).f1) ((rd_T32 l0 a1).f2) ((rd_T32 l0 a1).f3) ((rd_T32 l0 a1).f4) ((rd_T32 l0 a1).f5))) else (linkhouseref2_TypeCode.j3 kj24 l0 a1 true ((rd_T32 l0 a1).f0) ((rd_T32 l0 a1).f1) ((rd_T32 l0 a1).f2) ((rd_T32 l0 a1).f3) ((rd_T32 l0 a1).f4) ((rd_T32 l0 a1).f5)))) else (if ((rd_T32 l0 a1).f0) = 2 then (linkhouseref2_TypeCode.j3 kj24 l0 a1 (((rd_T32 l0 a1).f2) != 4) ((rd_T32 l0 a1).f0) ((rd_T32 l0 a1).f1) ((rd_T32 l0 a1).f2) ((rd_T32 l0 a1).f3) ((rd_T32 l0 a1).f4) ((rd_T32 l0 a1).f5)) else (linkhouseref2_TypeCode.j3 kj24 l0 a1 false ((rd_T32 l0 a1).f0) ((rd_T32 l0 a1).f1) ((rd_T32 l0 a1).f2) ((rd_T32 l0 a1).f3) ((rd_T32 l0 a1).f4) ((rd_T32 l0 a1).f5)))) = some r := by rw [if_neg (show ¬ (false = true) by decide)] at H; exact H
           replace H := H1; clear H1
           have HC56 := Aside0.mk H
           clear H
           go_upto_region 10 with (fail)
           repeat (go_quiet (fail); go_upto_region 10 with (fail))
           go_cut [102] (fun v102 wc => ∃ (kq : Nat) (x102_55 : Bool), v102 = .bool x102_55 ∧ Aside0 (linkhouseref2_TypeCode.j3 kq l0 a1 x102_55 ((rd_T32 l0 a1).f0) ((rd_T32 l0 a1).f1) ((rd_T32 l0 a1).f2) ((rd_T32 l0 a1).f3) ((rd_T32 l0 a1).f4) ((rd_T32 l0 a1).f5) = some r) ∧ Aside0 (kq ≤ kj24) ∧ Aside0 (wc.heap[gb305]? = some (.cells #[.int .i64 ((rd_T32 l0 a1).f0), .string ((rd_T32 l0 a1).f1), .int .i64 ((rd_T32 l0 a1).f2), .int .i64 ((rd_T32 l0 a1).f3), .int .i64 ((rd_T32 l0 a1).f4), (.slice A304_5 ((rd_T32 l0 a1).f5).length c304_5)] 32 (0, 0))) ∧ Aside0 (Below w.heap.size w wc))
           case first =>
            have H := HC56.out
            clear HC56
            by_cases c57 : ((rd_T32 l0 a1).f0) = 1
            ·rw [if_pos c57] at H
             have c57b0 : (((rd_T32 l0 a1).f0) == 1) = true := beq_iff_eq.mpr c57
             have c57b1 : (((rd_T32 l0 a1).f0) != 1) = false := bne_eq_false_iff_eq.mpr c57
             clear c57
             (first | rw [c57b0] | (simp only [i64_w, i32_w]; rw [c57b0]) | skip)
             by_cases c58 : ((rd_T32 l0 a1).f2) = 1
             ·rw [if_pos c58] at H
              have c58b0 : (((rd_T32 l0 a1).f2) == 1) = true := beq_iff_eq.mpr c58
              have c58b1 : (((rd_T32 l0 a1).f2) != 1) = false := bne_eq_false_iff_eq.mpr c58
              clear c58
              by_cases c59 : ((rd_T32 l0 a1).f0) = 2
              ·rw [if_pos c59] at H
               have c59b0 : (((rd_T32 l0 a1).f0) == 2) = true := beq_iff_eq.mpr c59
               have c59b1 : (((rd_T32 l0 a1).f0) != 2) = false := bne_eq_false_iff_eq.mpr c59
               clear c59
               have H' := Aside0.mk H
               clear H
               obtain ⟨hcz60_0, hcz60_1, hcz60_2, hcz60_3, hcz60_4, hcz60_5, hfz60_0, hfz60_1, hfz60_2, hfz60_3, hfz60_4, hfz60_5⟩ := cells6 BK305.out
               go_wp2
               repeat (go_quiet (fail); try go_wp2)
               go_meet
               case rel => exact ⟨_, ((((rd_T32 l0 a1).f2) != 4)), (by first | rfl | (simp; done) | (simp [*]; done)), H', ⟨by have := HJ6.out; have := HJ14.out; have := HJ24.out; first | omega | exact Nat.le_refl _⟩, ⟨by (with_reducible repeat (first | refine blk_drewN ?_ _ | refine blk_drew ?_ | refine blk_alloc ?_ _)); exact BK305.out⟩, ⟨by repeat (first | (with_reducible first | exact HB.out | apply below_alloc | apply pw_below_drewN | apply below_drew1 | refine below_set ?_ GE305.out) | exact HB.out)⟩⟩
              ·rw [if_neg c59] at H
               have c59b0 : (((rd_T32 l0 a1).f0) == 2) = false := beq_eq_false_iff_ne.mpr c59
               have c59b1 : (((rd_T32 l0 a1).f0) != 2) = true := bne_iff_ne.mpr c59
               have H' := Aside0.mk H
               clear H
               obtain ⟨hcz61_0, hcz61_1, hcz61_2, hcz61_3, hcz61_4, hcz61_5, hfz61_0, hfz61_1, hfz61_2, hfz61_3, hfz61_4, hfz61_5⟩ := cells6 BK305.out
               go_wp2
               repeat (go_quiet (fail); try go_wp2)
               go_meet
               case rel => exact ⟨_, (false), (by first | rfl | (simp; done) | (simp [*]; done)), H', ⟨by have := HJ6.out; have := HJ14.out; have := HJ24.out; first | omega | exact Nat.le_refl _⟩, ⟨by (with_reducible repeat (first | refine blk_drewN ?_ _ | refine blk_drew ?_ | refine blk_alloc ?_ _)); exact BK305.out⟩, ⟨by repeat (first | (with_reducible first | exact HB.out | apply below_alloc | apply pw_below_drewN | apply below_drew1 | refine below_set ?_ GE305.out) | exact HB.out)⟩⟩
             ·rw [if_neg c58] at H
              have c58b0 : (((rd_T32 l0 a1).f2) == 1) = false := beq_eq_false_iff_ne.mpr c58
              have c58b1 : (((rd_T32 l0 a1).f2) != 1) = true := bne_iff_ne.mpr c58
              by_cases c62 : ((rd_T32 l0 a1).f2) = 4
              ·rw [if_pos c62] at H
               have c62b0 : (((rd_T32 l0 a1).f2) == 4) = true := beq_iff_eq.mpr c62
               have c62b1 : (((rd_T32 l0 a1).f2) != 4) = false := bne_eq_false_iff_eq.mpr c62
               clear c62
               by_cases c63 : ((rd_T32 l0 a1).f0) = 2
               ·rw [if_pos c63] at H
                have c63b0 : (((rd_T32 l0 a1).f0) == 2) = true := beq_iff_eq.mpr c63
                have c63b1 : (((rd_T32 l0 a1).f0) != 2) = false := bne_eq_false_iff_eq.mpr c63
                clear c63
                have H' := Aside0.mk H
                clear H
                obtain ⟨hcz64_0, hcz64_1, hcz64_2, hcz64_3, hcz64_4, hcz64_5, hfz64_0, hfz64_1, hfz64_2, hfz64_3, hfz64_4, hfz64_5⟩ := cells6 BK305.out
                go_wp2
                repeat (go_quiet (fail); try go_wp2)
                go_meet
                case rel => exact ⟨_, ((((rd_T32 l0 a1).f2) != 4)), (by first | rfl | (simp; done) | (simp [*]; done)), H', ⟨by have := HJ6.out; have := HJ14.out; have := HJ24.out; first | omega | exact Nat.le_refl _⟩, ⟨by (with_reducible repeat (first | refine blk_drewN ?_ _ | refine blk_drew ?_ | refine blk_alloc ?_ _)); exact BK305.out⟩, ⟨by repeat (first | (with_reducible first | exact HB.out | apply below_alloc | apply pw_below_drewN | apply below_drew1 | refine below_set ?_ GE305.out) | exact HB.out)⟩⟩
               ·rw [if_neg c63] at H
                have c63b0 : (((rd_T32 l0 a1).f0) == 2) = false := beq_eq_false_iff_ne.mpr c63
                have c63b1 : (((rd_T32 l0 a1).f0) != 2) = true := bne_iff_ne.mpr c63
                have H' := Aside0.mk H
                clear H
                obtain ⟨hcz65_0, hcz65_1, hcz65_2, hcz65_3, hcz65_4, hcz65_5, hfz65_0, hfz65_1, hfz65_2, hfz65_3, hfz65_4, hfz65_5⟩ := cells6 BK305.out
                go_wp2
                repeat (go_quiet (fail); try go_wp2)
                go_meet
                case rel => exact ⟨_, (false), (by first | rfl | (simp; done) | (simp [*]; done)), H', ⟨by have := HJ6.out; have := HJ14.out; have := HJ24.out; first | omega | exact Nat.le_refl _⟩, ⟨by (with_reducible repeat (first | refine blk_drewN ?_ _ | refine blk_drew ?_ | refine blk_alloc ?_ _)); exact BK305.out⟩, ⟨by repeat (first | (with_reducible first | exact HB.out | apply below_alloc | apply pw_below_drewN | apply below_drew1 | refine below_set ?_ GE305.out) | exact HB.out)⟩⟩
              ·rw [if_neg c62] at H
               have c62b0 : (((rd_T32 l0 a1).f2) == 4) = false := beq_eq_false_iff_ne.mpr c62
               have c62b1 : (((rd_T32 l0 a1).f2) != 4) = true := bne_iff_ne.mpr c62
               have H' := Aside0.mk H
               clear H
               obtain ⟨hcz66_0, hcz66_1, hcz66_2, hcz66_3, hcz66_4, hcz66_5, hfz66_0, hfz66_1, hfz66_2, hfz66_3, hfz66_4, hfz66_5⟩ := cells6 BK305.out
               go_wp2
               repeat (go_quiet (fail); try go_wp2)
               go_meet
               case rel => exact ⟨_, (true), (by first | rfl | (simp; done) | (simp [*]; done)), H', ⟨by have := HJ6.out; have := HJ14.out; have := HJ24.out; first | omega | exact Nat.le_refl _⟩, ⟨by (with_reducible repeat (first | refine blk_drewN ?_ _ | refine blk_drew ?_ | refine blk_alloc ?_ _)); exact BK305.out⟩, ⟨by repeat (first | (with_reducible first | exact HB.out | apply below_alloc | apply pw_below_drewN | apply below_drew1 | refine below_set ?_ GE305.out) | exact HB.out)⟩⟩
            ·rw [if_neg c57] at H
             have c57b0 : (((rd_T32 l0 a1).f0) == 1) = false := beq_eq_false_iff_ne.mpr c57
             have c57b1 : (((rd_T32 l0 a1).f0) != 1) = true := bne_iff_ne.mpr c57
             (first | rw [c57b0] | (simp only [i64_w, i32_w]; rw [c57b0]) | skip)
             by_cases c67 : ((rd_T32 l0 a1).f0) = 2
             ·rw [if_pos c67] at H
              have c67b0 : (((rd_T32 l0 a1).f0) == 2) = true := beq_iff_eq.mpr c67
              have c67b1 : (((rd_T32 l0 a1).f0) != 2) = false := bne_eq_false_iff_eq.mpr c67
              clear c67
              have H' := Aside0.mk H
              clear H
              obtain ⟨hcz68_0, hcz68_1, hcz68_2, hcz68_3, hcz68_4, hcz68_5, hfz68_0, hfz68_1, hfz68_2, hfz68_3, hfz68_4, hfz68_5⟩ := cells6 BK305.out
              go_wp2
              repeat (go_quiet (fail); try go_wp2)
              go_meet
              case rel => exact ⟨_, ((((rd_T32 l0 a1).f2) != 4)), (by first | rfl | (simp; done) | (simp [*]; done)), H', ⟨by have := HJ6.out; have := HJ14.out; have := HJ24.out; first | omega | exact Nat.le_refl _⟩, ⟨by (with_reducible repeat (first | refine blk_drewN ?_ _ | refine blk_drew ?_ | refine blk_alloc ?_ _)); exact BK305.out⟩, ⟨by repeat (first | (with_reducible first | exact HB.out | apply below_alloc | apply pw_below_drewN | apply below_drew1 | refine below_set ?_ GE305.out) | exact HB.out)⟩⟩
             ·rw [if_neg c67] at H
              have c67b0 : (((rd_T32 l0 a1).f0) == 2) = false := beq_eq_false_iff_ne.mpr c67
              have c67b1 : (((rd_T32 l0 a1).f0) != 2) = true := bne_iff_ne.mpr c67
              have H' := Aside0.mk H
              clear H
              obtain ⟨hcz69_0, hcz69_1, hcz69_2, hcz69_3, hcz69_4, hcz69_5, hfz69_0, hfz69_1, hfz69_2, hfz69_3, hfz69_4, hfz69_5⟩ := cells6 BK305.out
              go_wp2
              repeat (go_quiet (fail); try go_wp2)
              go_meet
              case rel => exact ⟨_, (false), (by first | rfl | (simp; done) | (simp [*]; done)), H', ⟨by have := HJ6.out; have := HJ14.out; have := HJ24.out; first | omega | exact Nat.le_refl _⟩, ⟨by (with_reducible repeat (first | refine blk_drewN ?_ _ | refine blk_drew ?_ | refine blk_alloc ?_ _)); exact BK305.out⟩, ⟨by repeat (first | (with_reducible first | exact HB.out | apply below_alloc | apply pw_below_drewN | apply below_drew1 | refine below_set ?_ GE305.out) | exact HB.out)⟩⟩
           case rest =>
            as_aux_lemma =>
            clear HC56
            try clear c3; try clear c3b0; try clear c4; try clear c4b0; try clear c6; try clear c14; try clear c24; try clear c55; try clear hcz9_0; try clear hcz9_1; try clear hcz9_2; try clear hcz9_3; try clear hcz9_4; try clear hcz9_5; try clear hfz9_0; try clear hfz9_1; try clear hfz9_2; try clear hfz9_3; try clear hfz9_4; try clear hfz9_5; try clear hx304_0; try clear hx304_1; try clear hx304_2; try clear hx304_3; try clear hx304_4; try clear hx304_5; try clear p304; try clear q304
            obtain ⟨kq, x102_55, rfl, HA, HJ55, BK305, HB⟩ := hcut
            cases kq with
            | zero => exact absurd HA.out (by simp [linkhouseref2_TypeCode.j3])
            | succ kj55 =>
             have H := HA.out
             clear HA
             simp only [linkhouseref2_TypeCode.j3] at H
             by_cases c70 : x102_55 = true
             ·subst c70
              have H1 : (some 9) = some r := by rw [if_pos rfl] at H; exact H
              replace H := H1; clear H1
              obtain rfl := Option.some.inj H
              go_wp2
              repeat (go_quiet (fail); try go_wp2)
              go_ret
              exact ⟨by first | rfl | (simp [errW_none, errW_some] <;> rfl) | (simp [*, errW_none, errW_some] <;> rfl), by repeat (first | (with_reducible first | exact HB.out | apply below_alloc | apply pw_below_drewN | apply below_drew1 | refine below_set ?_ GE305.out) | exact HB.out)⟩
             ·replace c70 := Bool.eq_false_iff.mpr c70
              subst c70
              have H1 : (if ((rd_T32 l0 a1).f0) = 3 then (linkhouseref2_TypeCode.j4 kj55 l0 a1 (decide (((rd_T32 l0 a1).f3) ≥ a1)) ((rd_T32 l0 a1).f0) ((rd_T32 l0 a1).f1) ((rd_T32 l0 a1).f2) ((rd_T32 l0 a1).f3) ((rd_T32 l0 a1).f4) ((rd_T32 l0 a1).f5)) else (linkhouseref2_TypeCode.j4 kj55 l0 a1 false ((rd_T32 l0 a1).f0) ((rd_T32 l0 a1).f1) ((rd_T32 l0 a1).f2) ((rd_T32 l0 a1).f3) ((rd_T32 l0 a1).f4) ((rd_T32 l0 a1).f5))) = some r := by rw [if_neg (show ¬ (false = true) by decide)] at H; exact H
              replace H := H1; clear H1
              have HC71 := Aside0.mk H
              clear H
              go_upto_region 12 with (fail)
              repeat (go_quiet (fail); go_upto_region 12 with (fail))
              go_cut [111] (fun v111 wc => ∃ (kq : Nat) (x111_70 : Bool), v111 = .bool x111_70 ∧ Aside0 (linkhouseref2_TypeCode.j4 kq l0 a1 x111_70 ((rd_T32 l0 a1).f0) ((rd_T32 l0 a1).f1) ((rd_T32 l0 a1).f2) ((rd_T32 l0 a1).f3) ((rd_T32 l0 a1).f4) ((rd_T32 l0 a1).f5) = some r) ∧ Aside0 (kq ≤ kj55) ∧ Aside0 (wc.heap[gb305]? = some (.cells #[.int .i64 ((rd_T32 l0 a1).f0), .string ((rd_T32 l0 a1).f1), .int .i64 ((rd_T32 l0 a1).f2), .int .i64 ((rd_T32 l0 a1).f3), .int .i64 ((rd_T32 l0 a1).f4), (.slice A304_5 ((rd_T32 l0 a1).f5).length c304_5)] 32 (0, 0))) ∧ Aside0 (Below w.heap.size w wc))
              case first =>
               have H := HC71.out
               clear HC71
               by_cases c72 : ((rd_T32 l0 a1).f0) = 3
               ·rw [if_pos c72] at H
                have c72b0 : (((rd_T32 l0 a1).f0) == 3) = true := beq_iff_eq.mpr c72
                have c72b1 : (((rd_T32 l0 a1).f0) != 3) = false := bne_eq_false_iff_eq.mpr c72
                clear c72
                (first | rw [c72b0] | (simp only [i64_w, i32_w]; rw [c72b0]) | skip)
                have H' := Aside0.mk H
                clear H
                obtain ⟨hcz73_0, hcz73_1, hcz73_2, hcz73_3, hcz73_4, hcz73_5, hfz73_0, hfz73_1, hfz73_2, hfz73_3, hfz73_4, hfz73_5⟩ := cells6 BK305.out
                go_wp2
                repeat (go_quiet (fail); try go_wp2)
                go_meet
                case rel => exact ⟨_, (decide (((rd_T32 l0 a1).f3) ≥ a1)), (by first | rfl | (simp; done) | (simp [*]; done)), H', ⟨by have := HJ6.out; have := HJ14.out; have := HJ24.out; have := HJ55.out; first | omega | exact Nat.le_refl _⟩, ⟨by (with_reducible repeat (first | refine blk_drewN ?_ _ | refine blk_drew ?_ | refine blk_alloc ?_ _)); exact BK305.out⟩, ⟨by repeat (first | (with_reducible first | exact HB.out | apply below_alloc | apply pw_below_drewN | apply below_drew1 | refine below_set ?_ GE305.out) | exact HB.out)⟩⟩
               ·rw [if_neg c72] at H
                have c72b0 : (((rd_T32 l0 a1).f0) == 3) = false := beq_eq_false_iff_ne.mpr c72
                have c72b1 : (((rd_T32 l0 a1).f0) != 3) = true := bne_iff_ne.mpr c72
                (first | rw [c72b0] | (simp only [i64_w, i32_w]; rw [c72b0]) | skip)
                have H' := Aside0.mk H
                clear H
                obtain ⟨hcz74_0, hcz74_1, hcz74_2, hcz74_3, hcz74_4, hcz74_5, hfz74_0, hfz74_1, hfz74_2, hfz74_3, hfz74_4, hfz74_5⟩ := cells6 BK305.out
                go_wp2
                repeat (go_quiet (fail); try go_wp2)
                go_meet
                case rel => exact ⟨_, (false), (by first | rfl | (simp; done) | (simp [*]; done)), H', ⟨by have := HJ6.out; have := HJ14.out; have := HJ24.out; have := HJ55.out; first | omega | exact Nat.le_refl _⟩, ⟨by (with_reducible repeat (first | refine blk_drewN ?_ _ | refine blk_drew ?_ | refine blk_alloc ?_ _)); exact BK305.out⟩, ⟨by repeat (first | (with_reducible first | exact HB.out | apply below_alloc | apply pw_below_drewN | apply below_drew1 | refine below_set ?_ GE305.out) | exact HB.out)⟩⟩
              case rest =>
               as_aux_lemma =>
               clear HC71
               try clear c3; try clear c3b0; try clear c4; try clear c4b0; try clear c6; try clear c14; try clear c24; try clear c55; try clear c70; try clear hcz9_0; try clear hcz9_1; try clear hcz9_2; try clear hcz9_3; try clear hcz9_4; try clear hcz9_5; try clear hfz9_0; try clear hfz9_1; try clear hfz9_2; try clear hfz9_3; try clear hfz9_4; try clear hfz9_5; try clear hx304_0; try clear hx304_1; try clear hx304_2; try clear hx304_3; try clear hx304_4; try clear hx304_5; try clear p304; try clear q304
               obtain ⟨kq, x111_70, rfl, HA, HJ70, BK305, HB⟩ := hcut
               cases kq with
               | zero => exact absurd HA.out (by simp [linkhouseref2_TypeCode.j4])
               | succ kj70 =>
                have H := HA.out
                clear HA
                simp only [linkhouseref2_TypeCode.j4] at H
                by_cases c75 : x111_70 = true
                ·subst c75
                 have H1 : (some 3) = some r := by rw [if_pos rfl] at H; exact H
                 replace H := H1; clear H1
                 obtain rfl := Option.some.inj H
                 go_wp2
                 repeat (go_quiet (fail); try go_wp2)
                 go_ret
                 exact ⟨by first | rfl | (simp [errW_none, errW_some] <;> rfl) | (simp [*, errW_none, errW_some] <;> rfl), by repeat (first | (with_reducible first | exact HB.out | apply below_alloc | apply pw_below_drewN | apply below_drew1 | refine below_set ?_ GE305.out) | exact HB.out)⟩
                ·replace c75 := Bool.eq_false_iff.mpr c75
                 subst c75
                 have H1 : (if ((rd_T32 l0 a1).f0) = 3 then (if 0 ≤ ((rd_T32 l0 a1).f3) then (if ((rd_T32 l0 a1).f3) < (l0.length : Int) then (linkhouseref2_TypeCode.j5 kj70 l0 a1 (((rd_T32 l0 a1).f2) != (wrap64 (((rd_T32 l0 a1).f4) * ((rd_T32 l0 ((rd_T32 l0 a1).f3)).f2)))) ((rd_T32 l0 a1).f0) ((rd_T32 l0 a1).f1) ((rd_T32 l0 a1).f2) ((rd_T32 l0 a1).f3) ((rd_T32 l0 a1).f4) ((rd_T32 l0 a1).f5)) else (none)) else (none)) else (linkhouseref2_TypeCode.j5 kj70 l0 a1 false ((rd_T32 l0 a1).f0) ((rd_T32 l0 a1).f1) ((rd_T32 l0 a1).f2) ((rd_T32 l0 a1).f3) ((rd_T32 l0 a1).f4) ((rd_T32 l0 a1).f5))) = some r := by rw [if_neg (show ¬ (false = true) by decide)] at H; exact H
                 replace H := H1; clear H1
                 have HC76 := Aside0.mk H
                 clear H
                 go_upto_region 14 with (fail)
                 repeat (go_quiet (fail); go_upto_region 14 with (fail))
                 go_cut [128] (fun v128 wc => ∃ (kq : Nat) (x128_75 : Bool), v128 = .bool x128_75 ∧ Aside0 (linkhouseref2_TypeCode.j5 kq l0 a1 x128_75 ((rd_T32 l0 a1).f0) ((rd_T32 l0 a1).f1) ((rd_T32 l0 a1).f2) ((rd_T32 l0 a1).f3) ((rd_T32 l0 a1).f4) ((rd_T32 l0 a1).f5) = some r) ∧ Aside0 (kq ≤ kj70) ∧ Aside0 (wc.heap[gb305]? = some (.cells #[.int .i64 ((rd_T32 l0 a1).f0), .string ((rd_T32 l0 a1).f1), .int .i64 ((rd_T32 l0 a1).f2), .int .i64 ((rd_T32 l0 a1).f3), .int .i64 ((rd_T32 l0 a1).f4), (.slice A304_5 ((rd_T32 l0 a1).f5).length c304_5)] 32 (0, 0))) ∧ Aside0 (Below w.heap.size w wc))
                 case first =>
                  have H := HC76.out
                  clear HC76
                  by_cases c77 : ((rd_T32 l0 a1).f0) = 3
                  ·rw [if_pos c77] at H
                   have c77b0 : (((rd_T32 l0 a1).f0) == 3) = true := beq_iff_eq.mpr c77
                   have c77b1 : (((rd_T32 l0 a1).f0) != 3) = false := bne_eq_false_iff_eq.mpr c77
                   clear c77
                   (first | rw [c77b0] | (simp only [i64_w, i32_w]; rw [c77b0]) | skip)
                   by_cases c78 : 0 ≤ ((rd_T32 l0 a1).f3)
                   case neg => rw [if_neg c78] at H; exact absurd H (by simp)
                   rw [if_pos c78] at H
                   have c78b0 : decide (0 ≤ ((rd_T32 l0 a1).f3)) = true := decide_eq_true c78
                   clear c78
                   by_cases c79 : ((rd_T32 l0 a1).f3) < (l0.length : Int)
                   case neg => rw [if_neg c79] at H; exact absurd H (by simp)
                   rw [if_pos c79] at H
                   have c79b0 : decide (((rd_T32 l0 a1).f3) < (l0.length : Int)) = true := decide_eq_true c79
                   clear c79
                   have H' := Aside0.mk H
                   clear H
                   obtain ⟨hcz80_0, hcz80_1, hcz80_2, hcz80_3, hcz80_4, hcz80_5, hfz80_0, hfz80_1, hfz80_2, hfz80_3, hfz80_4, hfz80_5⟩ := cells6 BK305.out
                   have p311 : 0 ≤ (((rd_T32 l0 a1).f3) : Int) := of_decide_eq_true (by first | (with_reducible assumption) | assumption)
                   have q311 : ((rd_T32 l0 a1).f3) < (l0.length : Int) := of_decide_eq_true (by first | (with_reducible assumption) | assumption)
                   obtain ⟨ad311, A311_5, c311_5, e311, hx311_0, hx311_1, hx311_2, hx311_3, hx311_4, hx311_5, hl311_5, hi311_5⟩ := at_T32 HR0.out ((rd_T32 l0 a1).f3) p311 q311
                   obtain rfl : ad304 = ad311 := (by injection e311)
                   replace hx311_0 := (HB.out.cell (World.block_lt_of_cell? w _ hx311_0)).trans hx311_0
                   replace hx311_1 := (HB.out.cell (World.block_lt_of_cell? w _ hx311_1)).trans hx311_1
                   replace hx311_2 := (HB.out.cell (World.block_lt_of_cell? w _ hx311_2)).trans hx311_2
                   replace hx311_3 := (HB.out.cell (World.block_lt_of_cell? w _ hx311_3)).trans hx311_3
                   replace hx311_4 := (HB.out.cell (World.block_lt_of_cell? w _ hx311_4)).trans hx311_4
                   replace hx311_5 := (HB.out.cell (World.block_lt_of_cell? w _ hx311_5)).trans hx311_5
                   have HR311_5 := Aside0.mk hi311_5
                   have HC311_5 := Aside0.mk hl311_5
                   clear hi311_5 hl311_5
                   replace p311 := eq_true p311
                   replace q311 := eq_true q311
                   go_wp2
                   repeat (go_quiet (fail); try go_wp2)
                   go_meet
                   case rel => exact ⟨_, ((((rd_T32 l0 a1).f2) != (wrap64 (((rd_T32 l0 a1).f4) * ((rd_T32 l0 ((rd_T32 l0 a1).f3)).f2))))), (by first | rfl | (simp; done) | (simp [*]; done)), H', ⟨by have := HJ6.out; have := HJ14.out; have := HJ24.out; have := HJ55.out; have := HJ70.out; first | omega | exact Nat.le_refl _⟩, ⟨by (with_reducible repeat (first | refine blk_drewN ?_ _ | refine blk_drew ?_ | refine blk_alloc ?_ _)); exact BK305.out⟩, ⟨by repeat (first | (with_reducible first | exact HB.out | apply below_alloc | apply pw_below_drewN | apply below_drew1 | refine below_set ?_ GE305.out) | exact HB.out)⟩⟩
                  ·rw [if_neg c77] at H
                   have c77b0 : (((rd_T32 l0 a1).f0) == 3) = false := beq_eq_false_iff_ne.mpr c77
                   have c77b1 : (((rd_T32 l0 a1).f0) != 3) = true := bne_iff_ne.mpr c77
                   (first | rw [c77b0] | (simp only [i64_w, i32_w]; rw [c77b0]) | skip)
                   have H' := Aside0.mk H
                   clear H
                   obtain ⟨hcz81_0, hcz81_1, hcz81_2, hcz81_3, hcz81_4, hcz81_5, hfz81_0, hfz81_1, hfz81_2, hfz81_3, hfz81_4, hfz81_5⟩ := cells6 BK305.out
                   go_wp2
                   repeat (go_quiet (fail); try go_wp2)
                   go_meet
                   case rel => exact ⟨_, (false), (by first | rfl | (simp; done) | (simp [*]; done)), H', ⟨by have := HJ6.out; have := HJ14.out; have := HJ24.out; have := HJ55.out; have := HJ70.out; first | omega | exact Nat.le_refl _⟩, ⟨by (with_reducible repeat (first | refine blk_drewN ?_ _ | refine blk_drew ?_ | refine blk_alloc ?_ _)); exact BK305.out⟩, ⟨by repeat (first | (with_reducible first | exact HB.out | apply below_alloc | apply pw_below_drewN | apply below_drew1 | refine below_set ?_ GE305.out) | exact HB.out)⟩⟩
                 case rest =>
                  as_aux_lemma =>
                  clear HC76
                  try clear c3; try clear c3b0; try clear c4; try clear c4b0; try clear c6; try clear c14; try clear c24; try clear c55; try clear c70; try clear c75; try clear hcz9_0; try clear hcz9_1; try clear hcz9_2; try clear hcz9_3; try clear hcz9_4; try clear hcz9_5; try clear hfz9_0; try clear hfz9_1; try clear hfz9_2; try clear hfz9_3; try clear hfz9_4; try clear hfz9_5; try clear hx304_0; try clear hx304_1; try clear hx304_2; try clear hx304_3; try clear hx304_4; try clear hx304_5; try clear p304; try clear q304
                  obtain ⟨kq, x128_75, rfl, HA, HJ75, BK305, HB⟩ := hcut
                  cases kq with
                  | zero => exact absurd HA.out (by simp [linkhouseref2_TypeCode.j5])
                  | succ kj75 =>
                   have H := HA.out
                   clear HA
                   simp only [linkhouseref2_TypeCode.j5] at H
                   by_cases c82 : x128_75 = true
                   ·subst c82
                    have H1 : (some 9) = some r := by rw [if_pos rfl] at H; exact H
                    replace H := H1; clear H1
                    obtain rfl := Option.some.inj H
                    go_wp2
                    repeat (go_quiet (fail); try go_wp2)
                    go_ret
                    exact ⟨by first | rfl | (simp [errW_none, errW_some] <;> rfl) | (simp [*, errW_none, errW_some] <;> rfl), by repeat (first | (with_reducible first | exact HB.out | apply below_alloc | apply pw_below_drewN | apply below_drew1 | refine below_set ?_ GE305.out) | exact HB.out)⟩
                   ·replace c82 := Bool.eq_false_iff.mpr c82
                    subst c82
                    have H1 : (if (((rd_T32 l0 a1).f5).length : Int) > 8 then (some 2) else (linkhouseref2_TypeCode.l0 kj75 l0 a1 0 0 ((rd_T32 l0 a1).f0) ((rd_T32 l0 a1).f1) ((rd_T32 l0 a1).f2) ((rd_T32 l0 a1).f3) ((rd_T32 l0 a1).f4) ((rd_T32 l0 a1).f5))) = some r := by rw [if_neg (show ¬ (false = true) by decide)] at H; exact H
                    replace H := H1; clear H1
                    by_cases c83 : (((rd_T32 l0 a1).f5).length : Int) > 8
                    ·rw [if_pos c83] at H
                     have c83b0 : decide (8 < (((rd_T32 l0 a1).f5).length : Int)) = true := decide_eq_true c83
                     have c83b1 : decide (8 < ((rd_T32 l0 a1).f5).length) = true := decide_eq_true (by omega)
                     clear c83
                     obtain rfl := Option.some.inj H
                     obtain ⟨hcz84_0, hcz84_1, hcz84_2, hcz84_3, hcz84_4, hcz84_5, hfz84_0, hfz84_1, hfz84_2, hfz84_3, hfz84_4, hfz84_5⟩ := cells6 BK305.out
                     go_wp2
                     repeat (go_quiet (fail); try go_wp2)
                     go_ret
                     exact ⟨by first | rfl | (simp [errW_none, errW_some] <;> rfl) | (simp [*, errW_none, errW_some] <;> rfl), by repeat (first | (with_reducible first | exact HB.out | apply below_alloc | apply pw_below_drewN | apply below_drew1 | refine below_set ?_ GE305.out) | exact HB.out)⟩
                    ·rw [if_neg c83] at H
                     have c83b0 : decide (8 < (((rd_T32 l0 a1).f5).length : Int)) = false := decide_eq_false c83
                     have c83b1 : decide (8 < ((rd_T32 l0 a1).f5).length) = false := decide_eq_false (by omega)
                     clear c83
                     have H' := Aside0.mk H
                     clear H
                     obtain ⟨hcz85_0, hcz85_1, hcz85_2, hcz85_3, hcz85_4, hcz85_5, hfz85_0, hfz85_1, hfz85_2, hfz85_3, hfz85_4, hfz85_5⟩ := cells6 BK305.out
                     go_wp2
                     repeat (go_quiet (fail); try go_wp2)
                     go_loopg [6, 7] kj75 (fun kq v6 v7 w' => ∃ (x6_7 : Int) (x7_7 : Int), v6 = .int .i64 x6_7 ∧ v7 = .int .i64 x7_7 ∧ Aside0 (linkhouseref2_TypeCode.l0 kq l0 a1 x6_7 x7_7 ((rd_T32 l0 a1).f0) ((rd_T32 l0 a1).f1) ((rd_T32 l0 a1).f2) ((rd_T32 l0 a1).f3) ((rd_T32 l0 a1).f4) ((rd_T32 l0 a1).f5) = some r) ∧ Aside0 (kq ≤ kj75) ∧ Aside0 (w'.heap[gb305]? = some (.cells #[.int .i64 ((rd_T32 l0 a1).f0), .string ((rd_T32 l0 a1).f1), .int .i64 ((rd_T32 l0 a1).f2), .int .i64 ((rd_T32 l0 a1).f3), .int .i64 ((rd_T32 l0 a1).f4), (.slice A304_5 ((rd_T32 l0 a1).f5).length c304_5)] 32 (0, 0))) ∧ Aside0 (Below w.heap.size w w'))
                     case atStart => exact ⟨(0), (0), (by first | rfl | (simp; done) | (simp [*]; done)), (by first | rfl | (simp; done) | (simp [*]; done)), H', ⟨Nat.le_refl _⟩, ⟨by (with_reducible repeat (first | refine blk_drewN ?_ _ | refine blk_drew ?_ | refine blk_alloc ?_ _)); exact BK305.out⟩, ⟨by repeat (first | (with_reducible first | exact HB.out | apply below_alloc | apply pw_below_drewN | apply below_drew1 | refine below_set ?_ GE305.out) | exact HB.out)⟩⟩
                     case round =>
                      clear H'
                      try clear c3; try clear c3b0; try clear c4; try clear c4b0; try clear c6; try clear c14; try clear c24; try clear c55; try clear c70; try clear c75; try clear c82; try clear c83; try clear c83b0; try clear c83b1; try clear hcz85_0; try clear hcz85_1; try clear hcz85_2; try clear hcz85_3; try clear hcz85_4; try clear hcz85_5; try clear hcz9_0; try clear hcz9_1; try clear hcz9_2; try clear hcz9_3; try clear hcz9_4; try clear hcz9_5; try clear hfz85_0; try clear hfz85_1; try clear hfz85_2; try clear hfz85_3; try clear hfz85_4; try clear hfz85_5; try clear hfz9_0; try clear hfz9_1; try clear hfz9_2; try clear hfz9_3; try clear hfz9_4; try clear hfz9_5; try clear hx304_0; try clear hx304_1; try clear hx304_2; try clear hx304_3; try clear hx304_4; try clear hx304_5; try clear p304; try clear q304
                      obtain ⟨x6_7, x7_7, rfl, rfl, HA, HK7, BK305, HB⟩ := hrel
                      cases gk with
                      | zero => exact absurd HA.out (by simp [linkhouseref2_TypeCode.l0])
                      | succ k7 =>
                       have H := HA.out
                       clear HA
                       simp only [linkhouseref2_TypeCode.l0] at H
                       by_cases c86 : x7_7 < (((rd_T32 l0 a1).f5).length : Int)
                       ·rw [if_pos c86] at H
                        have c86b0 : decide (x7_7 < (((rd_T32 l0 a1).f5).length : Int)) = true := decide_eq_true c86
                        clear c86
                        by_cases c87 : 0 ≤ x7_7
                        case neg => rw [if_neg c87] at H; exact absurd H (by simp)
                        rw [if_pos c87] at H
                        have c87b0 : decide (0 ≤ x7_7) = true := decide_eq_true c87
                        clear c87
                        replace H := Option.bind_eq_some_iff.mp H
                        obtain ⟨t314, A880, H⟩ := H
                        replace H : (if t314 = true then (linkhouseref2_TypeCode.l1 k7 l0 a1 x6_7 x7_7 0 ((rd_T32 l0 a1).f0) ((rd_T32 l0 a1).f1) ((rd_T32 l0 a1).f2) ((rd_T32 l0 a1).f3) ((rd_T32 l0 a1).f4) ((rd_T32 l0 a1).f5) ((rd_T55 ((rd_T32 l0 a1).f5) x7_7).f0) ((rd_T55 ((rd_T32 l0 a1).f5) x7_7).f1) ((rd_T55 ((rd_T32 l0 a1).f5) x7_7).f2)) else (some 12)) = some r := H
                        have A88 := Aside0.mk A880
                        clear A880
                        by_cases c89 : t314 = true
                        ·subst c89
                         have H1 : (linkhouseref2_TypeCode.l1 k7 l0 a1 x6_7 x7_7 0 ((rd_T32 l0 a1).f0) ((rd_T32 l0 a1).f1) ((rd_T32 l0 a1).f2) ((rd_T32 l0 a1).f3) ((rd_T32 l0 a1).f4) ((rd_T32 l0 a1).f5) ((rd_T55 ((rd_T32 l0 a1).f5) x7_7).f0) ((rd_T55 ((rd_T32 l0 a1).f5) x7_7).f1) ((rd_T55 ((rd_T32 l0 a1).f5) x7_7).f2)) = some r := by rw [if_pos rfl] at H; exact H
                         replace H := H1; clear H1
                         have H' := Aside0.mk H
                         clear H
                         obtain ⟨hcz90_0, hcz90_1, hcz90_2, hcz90_3, hcz90_4, hcz90_5, hfz90_0, hfz90_1, hfz90_2, hfz90_3, hfz90_4, hfz90_5⟩ := cells6 BK305.out
                         have p312 : 0 ≤ (x7_7 : Int) := of_decide_eq_true (by first | (with_reducible assumption) | assumption)
                         have q312 : x7_7 < (((rd_T32 l0 a1).f5).length : Int) := of_decide_eq_true (by first | (with_reducible assumption) | assumption)
                         obtain ⟨ad312, e312, hx312_0, hx312_1, hx312_2⟩ := at_T55 HR304_5.out x7_7 p312 q312
                         cases e312
                         replace hx312_0 := (HB.out.cell (World.block_lt_of_cell? w _ hx312_0)).trans hx312_0
                         replace hx312_1 := (HB.out.cell (World.block_lt_of_cell? w _ hx312_1)).trans hx312_1
                         replace hx312_2 := (HB.out.cell (World.block_lt_of_cell? w _ hx312_2)).trans hx312_2
                         replace p312 := eq_true p312
                         replace q312 := eq_true q312
                         go_wp2_with (first | ((with_reducible refine gate_dst (N := 8) rfl ?_); (try (refine gate_guard (by rfl) ?_; dsimp only)); refine box_event ?hg (N := 8) ?hd (cs := #[.string (⟨#[]⟩ : ByteArray), .int .i64 0, .int .i64 0]) (t := 55) ?hr ?_; (case hd => rfl); (case hg => rfl); (case hr => first | (go_simp; done) | (go_simp; rfl)); intro gb313 hg w91 hbox hb; have n0_ := Aside0.mk (blk_below (g := gb305) (o := .cells #[.int .i64 ((rd_T32 l0 a1).f0), .string ((rd_T32 l0 a1).f1), .int .i64 ((rd_T32 l0 a1).f2), .int .i64 ((rd_T32 l0 a1).f3), .int .i64 ((rd_T32 l0 a1).f4), .slice (some ad312) ((rd_T32 l0 a1).f5).length c304_5] 32 (0, 0)) (by (with_reducible repeat (first | refine blk_drewN ?_ _ | refine blk_drew ?_ | refine blk_alloc ?_ _)); exact BK305.out) hb); have n1_ := Aside0.mk (below_step (by repeat (first | (with_reducible first | exact HB.out | apply below_alloc | apply pw_below_drewN | apply below_drew1 | refine below_set ?_ GE305.out) | exact HB.out)) hb); have n2_ := Aside0.mk (hbox); have n3_ := Aside0.mk ((by rw [hg]; exact (below_size (by repeat (first | (with_reducible first | exact HB.out | apply below_alloc | apply pw_below_drewN | apply below_drew1 | refine below_set ?_ GE305.out) | exact HB.out))) : w.heap.size ≤ gb313)); have n4_ := Aside0.mk ((by rw [hg]; exact (below_size (by repeat (first | (with_reducible first | exact HB.out | apply below_alloc | apply pw_below_drewN | apply below_drew1 | refine below_set ?_ GE305.out) | exact HB.out))) : w.heap.size ≤ gb313)); have n5_ := Aside0.mk ((by rw [hg]; exact Nat.ne_of_lt (blk_lt (g := gb305) (o := .cells #[.int .i64 ((rd_T32 l0 a1).f0), .string ((rd_T32 l0 a1).f1), .int .i64 ((rd_T32 l0 a1).f2), .int .i64 ((rd_T32 l0 a1).f3), .int .i64 ((rd_T32 l0 a1).f4), .slice (some ad312) ((rd_T32 l0 a1).f5).length c304_5] 32 (0, 0)) (by (with_reducible repeat (first | refine blk_drewN ?_ _ | refine blk_drew ?_ | refine blk_alloc ?_ _)); exact BK305.out)) : gb305 ≠ gb313)); have n6_ := Aside0.mk ((by rw [hg]; exact Nat.ne_of_gt (blk_lt (g := gb305) (o := .cells #[.int .i64 ((rd_T32 l0 a1).f0), .string ((rd_T32 l0 a1).f1), .int .i64 ((rd_T32 l0 a1).f2), .int .i64 ((rd_T32 l0 a1).f3), .int .i64 ((rd_T32 l0 a1).f4), .slice (some ad312) ((rd_T32 l0 a1).f5).length c304_5] 32 (0, 0)) (by (with_reducible repeat (first | refine blk_drewN ?_ _ | refine blk_drew ?_ | refine blk_alloc ?_ _)); exact BK305.out)) : gb313 ≠ gb305)); clear BK305; clear HB; have BK305 := n0_; have HB := n1_; have BK313 := n2_; have GW313 := n3_; have GE313 := n4_; have NB305_313 := n5_; have NB313_305 := n6_; clear n0_ n1_ n2_ n3_ n4_ n5_ n6_; clear hb hbox hg; have hnb92 := NB313_305.out; have hnc92 := NB305_313.out; obtain ⟨hcz93_0, hcz93_1, hcz93_2, hfz93_0, hfz93_1, hfz93_2⟩ := cells3 BK313.out) | (go_at_call 35; (with_reducible refine (linkhouseref1_Name.calls k7 ((rd_T55 ((rd_T32 l0 a1).f5) x7_7).f0) true _ A88.out).mono ?_); rintro e w' ⟨rfl, ⟨nd, rfl⟩⟩; (try first | exact ⟨rfl, _, World.drewN_drewN _ _ _⟩ | exact ⟨rfl, _, Eq.trans (World.drewN_drewN _ _ _) (congrArg (World.drewN _) (Nat.add_assoc _ _ _))⟩)))
                         repeat (go_quiet (fail); try go_wp2)
                         go_loopg [9] k7 (fun kq v9 w' => ∃ (x9_8 : Int), v9 = .int .i64 x9_8 ∧ Aside0 (linkhouseref2_TypeCode.l1 kq l0 a1 x6_7 x7_7 x9_8 ((rd_T32 l0 a1).f0) ((rd_T32 l0 a1).f1) ((rd_T32 l0 a1).f2) ((rd_T32 l0 a1).f3) ((rd_T32 l0 a1).f4) ((rd_T32 l0 a1).f5) ((rd_T55 ((rd_T32 l0 a1).f5) x7_7).f0) ((rd_T55 ((rd_T32 l0 a1).f5) x7_7).f1) ((rd_T55 ((rd_T32 l0 a1).f5) x7_7).f2) = some r) ∧ Aside0 (kq ≤ k7) ∧ Aside0 (w'.heap[gb305]? = some (.cells #[.int .i64 ((rd_T32 l0 a1).f0), .string ((rd_T32 l0 a1).f1), .int .i64 ((rd_T32 l0 a1).f2), .int .i64 ((rd_T32 l0 a1).f3), .int .i64 ((rd_T32 l0 a1).f4), (.slice (some ad312) ((rd_T32 l0 a1).f5).length c304_5)] 32 (0, 0))) ∧ Aside0 (w'.heap[gb313]? = some (.cells #[.string ((rd_T55 ((rd_T32 l0 a1).f5) x7_7).f0), .int .i64 ((rd_T55 ((rd_T32 l0 a1).f5) x7_7).f1), .int .i64 ((rd_T55 ((rd_T32 l0 a1).f5) x7_7).f2)] 55 (0, 0))) ∧ Aside0 (Below w.heap.size w w'))
                         case atStart => exact ⟨(0), (by first | rfl | (simp; done) | (simp [*]; done)), H', ⟨Nat.le_refl _⟩, ⟨by (with_reducible repeat (first | refine blk_drewN ?_ _ | refine blk_drew ?_ | refine blk_alloc ?_ _)); refine blk_far ?_ NB305_313.out _; (with_reducible repeat (first | refine blk_drewN ?_ _ | refine blk_drew ?_ | refine blk_alloc ?_ _)); refine blk_far ?_ NB305_313.out _; (with_reducible repeat (first | refine blk_drewN ?_ _ | refine blk_drew ?_ | refine blk_alloc ?_ _)); refine blk_far ?_ NB305_313.out _; (with_reducible repeat (first | refine blk_drewN ?_ _ | refine blk_drew ?_ | refine blk_alloc ?_ _)); exact BK305.out⟩, ⟨by (with_reducible repeat (first | refine blk_drewN ?_ _ | refine blk_drew ?_ | refine blk_alloc ?_ _)); refine blk_put (cs := #[.string ((rd_T55 ((rd_T32 l0 a1).f5) x7_7).f0), .int .i64 ((rd_T55 ((rd_T32 l0 a1).f5) x7_7).f1), .int .i64 0]) ?_ 2 _ rfl; (with_reducible repeat (first | refine blk_drewN ?_ _ | refine blk_drew ?_ | refine blk_alloc ?_ _)); refine blk_put (cs := #[.string ((rd_T55 ((rd_T32 l0 a1).f5) x7_7).f0), .int .i64 0, .int .i64 0]) ?_ 1 _ rfl; (with_reducible repeat (first | refine blk_drewN ?_ _ | refine blk_drew ?_ | refine blk_alloc ?_ _)); refine blk_put (cs := #[.string (⟨#[]⟩ : ByteArray), .int .i64 0, .int .i64 0]) ?_ 0 _ rfl; (with_reducible repeat (first | refine blk_drewN ?_ _ | refine blk_drew ?_ | refine blk_alloc ?_ _)); exact BK313.out⟩, ⟨by repeat (first | (with_reducible first | exact HB.out | apply below_alloc | apply pw_below_drewN | apply below_drew1 | refine below_set ?_ GE305.out | refine below_set ?_ GE313.out) | exact HB.out)⟩⟩
                         case round =>
                          clear H'
                          try clear c3; try clear c3b0; try clear c4; try clear c4b0; try clear c6; try clear c14; try clear c24; try clear c55; try clear c70; try clear c75; try clear c82; try clear c83; try clear c83b0; try clear c83b1; try clear c86; try clear c86b0; try clear c87; try clear c87b0; try clear c89; try clear hcz85_0; try clear hcz85_1; try clear hcz85_2; try clear hcz85_3; try clear hcz85_4; try clear hcz85_5; try clear hcz90_0; try clear hcz90_1; try clear hcz90_2; try clear hcz90_3; try clear hcz90_4; try clear hcz90_5; try clear hcz93_0; try clear hcz93_1; try clear hcz93_2; try clear hcz9_0; try clear hcz9_1; try clear hcz9_2; try clear hcz9_3; try clear hcz9_4; try clear hcz9_5; try clear hfz85_0; try clear hfz85_1; try clear hfz85_2; try clear hfz85_3; try clear hfz85_4; try clear hfz85_5; try clear hfz90_0; try clear hfz90_1; try clear hfz90_2; try clear hfz90_3; try clear hfz90_4; try clear hfz90_5; try clear hfz93_0; try clear hfz93_1; try clear hfz93_2; try clear hfz9_0; try clear hfz9_1; try clear hfz9_2; try clear hfz9_3; try clear hfz9_4; try clear hfz9_5; try clear hx304_0; try clear hx304_1; try clear hx304_2; try clear hx304_3; try clear hx304_4; try clear hx304_5; try clear hx312_0; try clear hx312_1; try clear hx312_2; try clear p304; try clear p312; try clear q304; try clear q312
                          obtain ⟨x9_8, rfl, HA, HK8, BK305, BK313, HB⟩ := hrel
                          cases gk with
                          | zero => exact absurd HA.out (by simp [linkhouseref2_TypeCode.l1])
                          | succ k8 =>
                           have H := HA.out
                           clear HA
                           simp only [linkhouseref2_TypeCode.l1] at H
                           by_cases c94 : x9_8 < x7_7
                           ·rw [if_pos c94] at H
                            have c94b0 : decide (x9_8 < x7_7) = true := decide_eq_true c94
                            clear c94
                            by_cases c95 : 0 ≤ x9_8
                            case neg => rw [if_neg c95] at H; exact absurd H (by simp)
                            rw [if_pos c95] at H
                            have c95b0 : decide (0 ≤ x9_8) = true := decide_eq_true c95
                            clear c95
                            by_cases c96 : x9_8 < (((rd_T32 l0 a1).f5).length : Int)
                            case neg => rw [if_neg c96] at H; exact absurd H (by simp)
                            rw [if_pos c96] at H
                            have c96b0 : decide (x9_8 < (((rd_T32 l0 a1).f5).length : Int)) = true := decide_eq_true c96
                            clear c96
                            by_cases c97 : ((rd_T55 ((rd_T32 l0 a1).f5) x9_8).f0).toList = ((rd_T55 ((rd_T32 l0 a1).f5) x7_7).f0).toList
                            ·rw [if_pos c97] at H
                             have c97b0 : (((rd_T55 ((rd_T32 l0 a1).f5) x9_8).f0).toList == ((rd_T55 ((rd_T32 l0 a1).f5) x7_7).f0).toList) = true := beq_iff_eq.mpr c97
                             have c97b1 : (((rd_T55 ((rd_T32 l0 a1).f5) x9_8).f0).toList != ((rd_T55 ((rd_T32 l0 a1).f5) x7_7).f0).toList) = false := bne_eq_false_iff_eq.mpr c97
                             clear c97
                             obtain rfl := Option.some.inj H
                             have hnb98 := NB305_313.out
                             have hnc98 := NB313_305.out
                             obtain ⟨hcz99_0, hcz99_1, hcz99_2, hcz99_3, hcz99_4, hcz99_5, hfz99_0, hfz99_1, hfz99_2, hfz99_3, hfz99_4, hfz99_5⟩ := cells6 BK305.out
                             have p315 : 0 ≤ (x9_8 : Int) := of_decide_eq_true (by first | (with_reducible assumption) | assumption)
                             have q315 : x9_8 < (((rd_T32 l0 a1).f5).length : Int) := of_decide_eq_true (by first | (with_reducible assumption) | assumption)
                             obtain ⟨ad315, e315, hx315_0, hx315_1, hx315_2⟩ := at_T55 HR304_5.out x9_8 p315 q315
                             obtain rfl : ad312 = ad315 := (by injection e315)
                             replace hx315_0 := (HB.out.cell (World.block_lt_of_cell? w _ hx315_0)).trans hx315_0
                             replace hx315_1 := (HB.out.cell (World.block_lt_of_cell? w _ hx315_1)).trans hx315_1
                             replace hx315_2 := (HB.out.cell (World.block_lt_of_cell? w _ hx315_2)).trans hx315_2
                             replace p315 := eq_true p315
                             replace q315 := eq_true q315
                             obtain ⟨hcz100_0, hcz100_1, hcz100_2, hfz100_0, hfz100_1, hfz100_2⟩ := cells3 BK313.out
                             go_wp2
                             repeat (go_quiet (fail); try go_wp2)
                             go_ret
                             exact ⟨by first | rfl | (simp [errW_none, errW_some] <;> rfl) | (simp [*, errW_none, errW_some] <;> rfl), by repeat (first | (with_reducible first | exact HB.out | apply below_alloc | apply pw_below_drewN | apply below_drew1 | refine below_set ?_ GE305.out | refine below_set ?_ GE313.out) | exact HB.out)⟩
                            ·rw [if_neg c97] at H
                             have c97b0 : (((rd_T55 ((rd_T32 l0 a1).f5) x9_8).f0).toList == ((rd_T55 ((rd_T32 l0 a1).f5) x7_7).f0).toList) = false := beq_eq_false_iff_ne.mpr c97
                             have c97b1 : (((rd_T55 ((rd_T32 l0 a1).f5) x9_8).f0).toList != ((rd_T55 ((rd_T32 l0 a1).f5) x7_7).f0).toList) = true := bne_iff_ne.mpr c97
                             have H' := Aside0.mk H
                             clear H
                             have hnb101 := NB305_313.out
                             have hnc101 := NB313_305.out
                             obtain ⟨hcz102_0, hcz102_1, hcz102_2, hcz102_3, hcz102_4, hcz102_5, hfz102_0, hfz102_1, hfz102_2, hfz102_3, hfz102_4, hfz102_5⟩ := cells6 BK305.out
                             have p315 : 0 ≤ (x9_8 : Int) := of_decide_eq_true (by first | (with_reducible assumption) | assumption)
                             have q315 : x9_8 < (((rd_T32 l0 a1).f5).length : Int) := of_decide_eq_true (by first | (with_reducible assumption) | assumption)
                             obtain ⟨ad315, e315, hx315_0, hx315_1, hx315_2⟩ := at_T55 HR304_5.out x9_8 p315 q315
                             obtain rfl : ad312 = ad315 := (by injection e315)
                             replace hx315_0 := (HB.out.cell (World.block_lt_of_cell? w _ hx315_0)).trans hx315_0
                             replace hx315_1 := (HB.out.cell (World.block_lt_of_cell? w _ hx315_1)).trans hx315_1
                             replace hx315_2 := (HB.out.cell (World.block_lt_of_cell? w _ hx315_2)).trans hx315_2
                             replace p315 := eq_true p315
                             replace q315 := eq_true q315
                             obtain ⟨hcz103_0, hcz103_1, hcz103_2, hfz103_0, hfz103_1, hfz103_2⟩ := cells3 BK313.out
                             go_wp2
                             repeat (go_quiet (fail); try go_wp2)
                             go_roundg k8
                             case measure => have := HJ6.out; have := HJ14.out; have := HJ24.out; have := HJ55.out; have := HJ70.out; have := HJ75.out; have := HK7.out; have := HK8.out; omega
                             case rel => exact ⟨(wrap64 (x9_8 + 1)), (by first | rfl | (simp; done) | (simp [*]; done)), H', ⟨by have := HJ6.out; have := HJ14.out; have := HJ24.out; have := HJ55.out; have := HJ70.out; have := HJ75.out; have := HK7.out; have := HK8.out; omega⟩, ⟨by (with_reducible repeat (first | refine blk_drewN ?_ _ | refine blk_drew ?_ | refine blk_alloc ?_ _)); exact BK305.out⟩, ⟨by (with_reducible repeat (first | refine blk_drewN ?_ _ | refine blk_drew ?_ | refine blk_alloc ?_ _)); exact BK313.out⟩, ⟨by repeat (first | (with_reducible first | exact HB.out | apply below_alloc | apply pw_below_drewN | apply below_drew1 | refine below_set ?_ GE305.out | refine below_set ?_ GE313.out) | exact HB.out)⟩⟩
                           ·rw [if_neg c94] at H
                            have c94b0 : decide (x9_8 < x7_7) = false := decide_eq_false c94
                            clear c94
                            replace H := Option.bind_eq_some_iff.mp H
                            obtain ⟨t316, A1040, H⟩ := H
                            replace H : (if t316 = true then (if ((rd_T55 ((rd_T32 l0 a1).f5) x7_7).f2) < x6_7 then (some 5) else (if ((rd_T55 ((rd_T32 l0 a1).f5) x7_7).f2) > 2000000 then (some 5) else (if 0 ≤ ((rd_T55 ((rd_T32 l0 a1).f5) x7_7).f1) then (if ((rd_T55 ((rd_T32 l0 a1).f5) x7_7).f1) < (l0.length : Int) then (if (wrap64 (((rd_T55 ((rd_T32 l0 a1).f5) x7_7).f2) + ((rd_T32 l0 ((rd_T55 ((rd_T32 l0 a1).f5) x7_7).f1)).f2))) > ((rd_T32 l0 a1).f2) then (some 5) else (linkhouseref2_TypeCode.l0 k8 l0 a1 (wrap64 (((rd_T55 ((rd_T32 l0 a1).f5) x7_7).f2) + ((rd_T32 l0 ((rd_T55 ((rd_T32 l0 a1).f5) x7_7).f1)).f2))) (wrap64 (x7_7 + 1)) ((rd_T32 l0 a1).f0) ((rd_T32 l0 a1).f1) ((rd_T32 l0 a1).f2) ((rd_T32 l0 a1).f3) ((rd_T32 l0 a1).f4) ((rd_T32 l0 a1).f5))) else (none)) else (none)))) else (some 3)) = some r := H
                            have A104 := Aside0.mk A1040
                            clear A1040
                            by_cases c105 : t316 = true
                            ·subst c105
                             have H1 : (if ((rd_T55 ((rd_T32 l0 a1).f5) x7_7).f2) < x6_7 then (some 5) else (if ((rd_T55 ((rd_T32 l0 a1).f5) x7_7).f2) > 2000000 then (some 5) else (if 0 ≤ ((rd_T55 ((rd_T32 l0 a1).f5) x7_7).f1) then (if ((rd_T55 ((rd_T32 l0 a1).f5) x7_7).f1) < (l0.length : Int) then (if (wrap64 (((rd_T55 ((rd_T32 l0 a1).f5) x7_7).f2) + ((rd_T32 l0 ((rd_T55 ((rd_T32 l0 a1).f5) x7_7).f1)).f2))) > ((rd_T32 l0 a1).f2) then (some 5) else (linkhouseref2_TypeCode.l0 k8 l0 a1 (wrap64 (((rd_T55 ((rd_T32 l0 a1).f5) x7_7).f2) + ((rd_T32 l0 ((rd_T55 ((rd_T32 l0 a1).f5) x7_7).f1)).f2))) (wrap64 (x7_7 + 1)) ((rd_T32 l0 a1).f0) ((rd_T32 l0 a1).f1) ((rd_T32 l0 a1).f2) ((rd_T32 l0 a1).f3) ((rd_T32 l0 a1).f4) ((rd_T32 l0 a1).f5))) else (none)) else (none)))) = some r := by rw [if_pos rfl] at H; exact H
                             replace H := H1; clear H1
                             by_cases c106 : ((rd_T55 ((rd_T32 l0 a1).f5) x7_7).f2) < x6_7
                             ·rw [if_pos c106] at H
                              have c106b0 : decide (((rd_T55 ((rd_T32 l0 a1).f5) x7_7).f2) < x6_7) = true := decide_eq_true c106
                              clear c106
                              obtain rfl := Option.some.inj H
                              have hnb107 := NB313_305.out
                              have hnc107 := NB305_313.out
                              obtain ⟨hcz108_0, hcz108_1, hcz108_2, hfz108_0, hfz108_1, hfz108_2⟩ := cells3 BK313.out
                              go_wp2_with (first | (go_at_call 20; (with_reducible refine (linkhouseref1_In.calls ((rd_T55 ((rd_T32 l0 a1).f5) x7_7).f1) 0 (wrap64 (a1 - 1)) true _ A104.out).mono ?_); rintro e w' ⟨rfl, ⟨nd, rfl⟩⟩; (try first | exact ⟨rfl, _, World.drewN_drewN _ _ _⟩ | exact ⟨rfl, _, Eq.trans (World.drewN_drewN _ _ _) (congrArg (World.drewN _) (Nat.add_assoc _ _ _))⟩)))
                              repeat (go_quiet (fail); try go_wp2)
                              go_ret
                              exact ⟨by first | rfl | (simp [errW_none, errW_some] <;> rfl) | (simp [*, errW_none, errW_some] <;> rfl), by repeat (first | (with_reducible first | exact HB.out | apply below_alloc | apply pw_below_drewN | apply below_drew1 | refine below_set ?_ GE305.out | refine below_set ?_ GE313.out) | exact HB.out)⟩
                             ·rw [if_neg c106] at H
                              have c106b0 : decide (((rd_T55 ((rd_T32 l0 a1).f5) x7_7).f2) < x6_7) = false := decide_eq_false c106
                              clear c106
                              by_cases c109 : ((rd_T55 ((rd_T32 l0 a1).f5) x7_7).f2) > 2000000
                              ·rw [if_pos c109] at H
                               have c109b0 : decide (2000000 < ((rd_T55 ((rd_T32 l0 a1).f5) x7_7).f2)) = true := decide_eq_true c109
                               clear c109
                               obtain rfl := Option.some.inj H
                               have hnb110 := NB313_305.out
                               have hnc110 := NB305_313.out
                               obtain ⟨hcz111_0, hcz111_1, hcz111_2, hfz111_0, hfz111_1, hfz111_2⟩ := cells3 BK313.out
                               go_wp2_with (first | (go_at_call 20; (with_reducible refine (linkhouseref1_In.calls ((rd_T55 ((rd_T32 l0 a1).f5) x7_7).f1) 0 (wrap64 (a1 - 1)) true _ A104.out).mono ?_); rintro e w' ⟨rfl, ⟨nd, rfl⟩⟩; (try first | exact ⟨rfl, _, World.drewN_drewN _ _ _⟩ | exact ⟨rfl, _, Eq.trans (World.drewN_drewN _ _ _) (congrArg (World.drewN _) (Nat.add_assoc _ _ _))⟩)))
                               repeat (go_quiet (fail); try go_wp2)
                               go_ret
                               exact ⟨by first | rfl | (simp [errW_none, errW_some] <;> rfl) | (simp [*, errW_none, errW_some] <;> rfl), by repeat (first | (with_reducible first | exact HB.out | apply below_alloc | apply pw_below_drewN | apply below_drew1 | refine below_set ?_ GE305.out | refine below_set ?_ GE313.out) | exact HB.out)⟩
                              ·rw [if_neg c109] at H
                               have c109b0 : decide (2000000 < ((rd_T55 ((rd_T32 l0 a1).f5) x7_7).f2)) = false := decide_eq_false c109
                               clear c109
                               by_cases c112 : 0 ≤ ((rd_T55 ((rd_T32 l0 a1).f5) x7_7).f1)
                               case neg => rw [if_neg c112] at H; exact absurd H (by simp)
                               rw [if_pos c112] at H
                               have c112b0 : decide (0 ≤ ((rd_T55 ((rd_T32 l0 a1).f5) x7_7).f1)) = true := decide_eq_true c112
                               clear c112
                               by_cases c113 : ((rd_T55 ((rd_T32 l0 a1).f5) x7_7).f1) < (l0.length : Int)
                               case neg => rw [if_neg c113] at H; exact absurd H (by simp)
                               rw [if_pos c113] at H
                               have c113b0 : decide (((rd_T55 ((rd_T32 l0 a1).f5) x7_7).f1) < (l0.length : Int)) = true := decide_eq_true c113
                               clear c113
                               by_cases c114 : (wrap64 (((rd_T55 ((rd_T32 l0 a1).f5) x7_7).f2) + ((rd_T32 l0 ((rd_T55 ((rd_T32 l0 a1).f5) x7_7).f1)).f2))) > ((rd_T32 l0 a1).f2)
                               ·rw [if_pos c114] at H
                                have c114b0 : decide (((rd_T32 l0 a1).f2) < (wrap64 (((rd_T55 ((rd_T32 l0 a1).f5) x7_7).f2) + ((rd_T32 l0 ((rd_T55 ((rd_T32 l0 a1).f5) x7_7).f1)).f2)))) = true := decide_eq_true c114
                                clear c114
                                obtain rfl := Option.some.inj H
                                have hnb115 := NB313_305.out
                                have hnc115 := NB305_313.out
                                obtain ⟨hcz116_0, hcz116_1, hcz116_2, hfz116_0, hfz116_1, hfz116_2⟩ := cells3 BK313.out
                                go_wp2_with (first | (go_at_call 20; (with_reducible refine (linkhouseref1_In.calls ((rd_T55 ((rd_T32 l0 a1).f5) x7_7).f1) 0 (wrap64 (a1 - 1)) true _ A104.out).mono ?_); rintro e w' ⟨rfl, ⟨nd, rfl⟩⟩; (try first | exact ⟨rfl, _, World.drewN_drewN _ _ _⟩ | exact ⟨rfl, _, Eq.trans (World.drewN_drewN _ _ _) (congrArg (World.drewN _) (Nat.add_assoc _ _ _))⟩); have p317 : 0 ≤ (((rd_T55 ((rd_T32 l0 a1).f5) x7_7).f1) : Int) := of_decide_eq_true (by first | (with_reducible assumption) | assumption); have q317 : ((rd_T55 ((rd_T32 l0 a1).f5) x7_7).f1) < (l0.length : Int) := of_decide_eq_true (by first | (with_reducible assumption) | assumption); obtain ⟨ad317, A317_5, c317_5, e317, hx317_0, hx317_1, hx317_2, hx317_3, hx317_4, hx317_5, hl317_5, hi317_5⟩ := at_T32 HR0.out ((rd_T55 ((rd_T32 l0 a1).f5) x7_7).f1) p317 q317; obtain rfl : ad304 = ad317 := (by injection e317); replace hx317_0 := (HB.out.cell (World.block_lt_of_cell? w _ hx317_0)).trans hx317_0; replace hx317_1 := (HB.out.cell (World.block_lt_of_cell? w _ hx317_1)).trans hx317_1; replace hx317_2 := (HB.out.cell (World.block_lt_of_cell? w _ hx317_2)).trans hx317_2; replace hx317_3 := (HB.out.cell (World.block_lt_of_cell? w _ hx317_3)).trans hx317_3; replace hx317_4 := (HB.out.cell (World.block_lt_of_cell? w _ hx317_4)).trans hx317_4; replace hx317_5 := (HB.out.cell (World.block_lt_of_cell? w _ hx317_5)).trans hx317_5; have HR317_5 := Aside0.mk hi317_5; have HC317_5 := Aside0.mk hl317_5; clear hi317_5 hl317_5; replace p317 := eq_true p317; replace q317 := eq_true q317; obtain ⟨hcz117_0, hcz117_1, hcz117_2, hcz117_3, hcz117_4, hcz117_5, hfz117_0, hfz117_1, hfz117_2, hfz117_3, hfz117_4, hfz117_5⟩ := cells6 BK305.out))
                                repeat (go_quiet (fail); try go_wp2)
                                go_ret
                                exact ⟨by first | rfl | (simp [errW_none, errW_some] <;> rfl) | (simp [*, errW_none, errW_some] <;> rfl), by repeat (first | (with_reducible first | exact HB.out | apply below_alloc | apply pw_below_drewN | apply below_drew1 | refine below_set ?_ GE305.out | refine below_set ?_ GE313.out) | exact HB.out)⟩
                               ·rw [if_neg c114] at H
                                have c114b0 : decide (((rd_T32 l0 a1).f2) < (wrap64 (((rd_T55 ((rd_T32 l0 a1).f5) x7_7).f2) + ((rd_T32 l0 ((rd_T55 ((rd_T32 l0 a1).f5) x7_7).f1)).f2)))) = false := decide_eq_false c114
                                clear c114
                                have H' := Aside0.mk H
                                clear H
                                have hnb118 := NB313_305.out
                                have hnc118 := NB305_313.out
                                obtain ⟨hcz119_0, hcz119_1, hcz119_2, hfz119_0, hfz119_1, hfz119_2⟩ := cells3 BK313.out
                                go_wp2_with (first | (go_at_call 20; (with_reducible refine (linkhouseref1_In.calls ((rd_T55 ((rd_T32 l0 a1).f5) x7_7).f1) 0 (wrap64 (a1 - 1)) true _ A104.out).mono ?_); rintro e w' ⟨rfl, ⟨nd, rfl⟩⟩; (try first | exact ⟨rfl, _, World.drewN_drewN _ _ _⟩ | exact ⟨rfl, _, Eq.trans (World.drewN_drewN _ _ _) (congrArg (World.drewN _) (Nat.add_assoc _ _ _))⟩); have p317 : 0 ≤ (((rd_T55 ((rd_T32 l0 a1).f5) x7_7).f1) : Int) := of_decide_eq_true (by first | (with_reducible assumption) | assumption); have q317 : ((rd_T55 ((rd_T32 l0 a1).f5) x7_7).f1) < (l0.length : Int) := of_decide_eq_true (by first | (with_reducible assumption) | assumption); obtain ⟨ad317, A317_5, c317_5, e317, hx317_0, hx317_1, hx317_2, hx317_3, hx317_4, hx317_5, hl317_5, hi317_5⟩ := at_T32 HR0.out ((rd_T55 ((rd_T32 l0 a1).f5) x7_7).f1) p317 q317; obtain rfl : ad304 = ad317 := (by injection e317); replace hx317_0 := (HB.out.cell (World.block_lt_of_cell? w _ hx317_0)).trans hx317_0; replace hx317_1 := (HB.out.cell (World.block_lt_of_cell? w _ hx317_1)).trans hx317_1; replace hx317_2 := (HB.out.cell (World.block_lt_of_cell? w _ hx317_2)).trans hx317_2; replace hx317_3 := (HB.out.cell (World.block_lt_of_cell? w _ hx317_3)).trans hx317_3; replace hx317_4 := (HB.out.cell (World.block_lt_of_cell? w _ hx317_4)).trans hx317_4; replace hx317_5 := (HB.out.cell (World.block_lt_of_cell? w _ hx317_5)).trans hx317_5; have HR317_5 := Aside0.mk hi317_5; have HC317_5 := Aside0.mk hl317_5; clear hi317_5 hl317_5; replace p317 := eq_true p317; replace q317 := eq_true q317; obtain ⟨hcz120_0, hcz120_1, hcz120_2, hcz120_3, hcz120_4, hcz120_5, hfz120_0, hfz120_1, hfz120_2, hfz120_3, hfz120_4, hfz120_5⟩ := cells6 BK305.out; have p318 : 0 ≤ (((rd_T55 ((rd_T32 l0 a1).f5) x7_7).f1) : Int) := of_decide_eq_true (by first | (with_reducible assumption) | assumption); have q318 : ((rd_T55 ((rd_T32 l0 a1).f5) x7_7).f1) < (l0.length : Int) := of_decide_eq_true (by first | (with_reducible assumption) | assumption); obtain ⟨ad318, A318_5, c318_5, e318, hx318_0, hx318_1, hx318_2, hx318_3, hx318_4, hx318_5, hl318_5, hi318_5⟩ := at_T32 HR0.out ((rd_T55 ((rd_T32 l0 a1).f5) x7_7).f1) p318 q318; obtain rfl : ad304 = ad318 := (by injection e318); replace hx318_0 := (HB.out.cell (World.block_lt_of_cell? w _ hx318_0)).trans hx318_0; replace hx318_1 := (HB.out.cell (World.block_lt_of_cell? w _ hx318_1)).trans hx318_1; replace hx318_2 := (HB.out.cell (World.block_lt_of_cell? w _ hx318_2)).trans hx318_2; replace hx318_3 := (HB.out.cell (World.block_lt_of_cell? w _ hx318_3)).trans hx318_3; replace hx318_4 := (HB.out.cell (World.block_lt_of_cell? w _ hx318_4)).trans hx318_4; replace hx318_5 := (HB.out.cell (World.block_lt_of_cell? w _ hx318_5)).trans hx318_5; have HR318_5 := Aside0.mk hi318_5; have HC318_5 := Aside0.mk hl318_5; clear hi318_5 hl318_5; replace p318 := eq_true p318; replace q318 := eq_true q318; have ea_ := Option.some.inj (hx317_5.symm.trans hx318_5); injection ea_ with ea_ en_ ec_; subst ea_; subst ec_; clear en_))
                                repeat (go_quiet (fail); try go_wp2)
                                go_roundg k8
                                case measure => have := HJ6.out; have := HJ14.out; have := HJ24.out; have := HJ55.out; have := HJ70.out; have := HJ75.out; have := HK7.out; have := HK8.out; omega
                                case rel => exact ⟨(wrap64 (((rd_T55 ((rd_T32 l0 a1).f5) x7_7).f2) + ((rd_T32 l0 ((rd_T55 ((rd_T32 l0 a1).f5) x7_7).f1)).f2))), (wrap64 (x7_7 + 1)), (by first | rfl | (simp; done) | (simp [*]; done)), (by first | rfl | (simp; done) | (simp [*]; done)), H', ⟨by have := HJ6.out; have := HJ14.out; have := HJ24.out; have := HJ55.out; have := HJ70.out; have := HJ75.out; have := HK7.out; have := HK8.out; omega⟩, ⟨by (with_reducible repeat (first | refine blk_drewN ?_ _ | refine blk_drew ?_ | refine blk_alloc ?_ _)); exact BK305.out⟩, ⟨by repeat (first | (with_reducible first | exact HB.out | apply below_alloc | apply pw_below_drewN | apply below_drew1 | refine below_set ?_ GE305.out | refine below_set ?_ GE313.out) | exact HB.out)⟩⟩
                            ·replace c105 := Bool.eq_false_iff.mpr c105
                             subst c105
                             have H1 : (some 3) = some r := by rw [if_neg (show ¬ (false = true) by decide)] at H; exact H
                             replace H := H1; clear H1
                             obtain rfl := Option.some.inj H
                             have hnb121 := NB313_305.out
                             have hnc121 := NB305_313.out
                             obtain ⟨hcz122_0, hcz122_1, hcz122_2, hfz122_0, hfz122_1, hfz122_2⟩ := cells3 BK313.out
                             go_wp2_with (first | (go_at_call 20; (with_reducible refine (linkhouseref1_In.calls ((rd_T55 ((rd_T32 l0 a1).f5) x7_7).f1) 0 (wrap64 (a1 - 1)) false _ A104.out).mono ?_); rintro e w' ⟨rfl, ⟨nd, rfl⟩⟩; (try first | exact ⟨rfl, _, World.drewN_drewN _ _ _⟩ | exact ⟨rfl, _, Eq.trans (World.drewN_drewN _ _ _) (congrArg (World.drewN _) (Nat.add_assoc _ _ _))⟩)))
                             repeat (go_quiet (fail); try go_wp2)
                             go_ret
                             exact ⟨by first | rfl | (simp [errW_none, errW_some] <;> rfl) | (simp [*, errW_none, errW_some] <;> rfl), by repeat (first | (with_reducible first | exact HB.out | apply below_alloc | apply pw_below_drewN | apply below_drew1 | refine below_set ?_ GE305.out | refine below_set ?_ GE313.out) | exact HB.out)⟩
                        ·replace c89 := Bool.eq_false_iff.mpr c89
                         subst c89
                         have H1 : (some 12) = some r := by rw [if_neg (show ¬ (false = true) by decide)] at H; exact H
                         replace H := H1; clear H1
                         obtain rfl := Option.some.inj H
                         obtain ⟨hcz123_0, hcz123_1, hcz123_2, hcz123_3, hcz123_4, hcz123_5, hfz123_0, hfz123_1, hfz123_2, hfz123_3, hfz123_4, hfz123_5⟩ := cells6 BK305.out
                         have p312 : 0 ≤ (x7_7 : Int) := of_decide_eq_true (by first | (with_reducible assumption) | assumption)
                         have q312 : x7_7 < (((rd_T32 l0 a1).f5).length : Int) := of_decide_eq_true (by first | (with_reducible assumption) | assumption)
                         obtain ⟨ad312, e312, hx312_0, hx312_1, hx312_2⟩ := at_T55 HR304_5.out x7_7 p312 q312
                         cases e312
                         replace hx312_0 := (HB.out.cell (World.block_lt_of_cell? w _ hx312_0)).trans hx312_0
                         replace hx312_1 := (HB.out.cell (World.block_lt_of_cell? w _ hx312_1)).trans hx312_1
                         replace hx312_2 := (HB.out.cell (World.block_lt_of_cell? w _ hx312_2)).trans hx312_2
                         replace p312 := eq_true p312
                         replace q312 := eq_true q312
                         go_wp2_with (first | ((with_reducible refine gate_dst (N := 8) rfl ?_); (try (refine gate_guard (by rfl) ?_; dsimp only)); refine box_event ?hg (N := 8) ?hd (cs := #[.string (⟨#[]⟩ : ByteArray), .int .i64 0, .int .i64 0]) (t := 55) ?hr ?_; (case hd => rfl); (case hg => rfl); (case hr => first | (go_simp; done) | (go_simp; rfl)); intro gb313 hg w124 hbox hb; have n0_ := Aside0.mk (blk_below (g := gb305) (o := .cells #[.int .i64 ((rd_T32 l0 a1).f0), .string ((rd_T32 l0 a1).f1), .int .i64 ((rd_T32 l0 a1).f2), .int .i64 ((rd_T32 l0 a1).f3), .int .i64 ((rd_T32 l0 a1).f4), .slice (some ad312) ((rd_T32 l0 a1).f5).length c304_5] 32 (0, 0)) (by (with_reducible repeat (first | refine blk_drewN ?_ _ | refine blk_drew ?_ | refine blk_alloc ?_ _)); exact BK305.out) hb); have n1_ := Aside0.mk (below_step (by repeat (first | (with_reducible first | exact HB.out | apply below_alloc | apply pw_below_drewN | apply below_drew1 | refine below_set ?_ GE305.out) | exact HB.out)) hb); have n2_ := Aside0.mk (hbox); have n3_ := Aside0.mk ((by rw [hg]; exact (below_size (by repeat (first | (with_reducible first | exact HB.out | apply below_alloc | apply pw_below_drewN | apply below_drew1 | refine below_set ?_ GE305.out) | exact HB.out))) : w.heap.size ≤ gb313)); have n4_ := Aside0.mk ((by rw [hg]; exact (below_size (by repeat (first | (with_reducible first | exact HB.out | apply below_alloc | apply pw_below_drewN | apply below_drew1 | refine below_set ?_ GE305.out) | exact HB.out))) : w.heap.size ≤ gb313)); have n5_ := Aside0.mk ((by rw [hg]; exact Nat.ne_of_lt (blk_lt (g := gb305) (o := .cells #[.int .i64 ((rd_T32 l0 a1).f0), .string ((rd_T32 l0 a1).f1), .int .i64 ((rd_T32 l0 a1).f2), .int .i64 ((rd_T32 l0 a1).f3), .int .i64 ((rd_T32 l0 a1).f4), .slice (some ad312) ((rd_T32 l0 a1).f5).length c304_5] 32 (0, 0)) (by (with_reducible repeat (first | refine blk_drewN ?_ _ | refine blk_drew ?_ | refine blk_alloc ?_ _)); exact BK305.out)) : gb305 ≠ gb313)); have n6_ := Aside0.mk ((by rw [hg]; exact Nat.ne_of_gt (blk_lt (g := gb305) (o := .cells #[.int .i64 ((rd_T32 l0 a1).f0), .string ((rd_T32 l0 a1).f1), .int .i64 ((rd_T32 l0 a1).f2), .int .i64 ((rd_T32 l0 a1).f3), .int .i64 ((rd_T32 l0 a1).f4), .slice (some ad312) ((rd_T32 l0 a1).f5).length c304_5] 32 (0, 0)) (by (with_reducible repeat (first | refine blk_drewN ?_ _ | refine blk_drew ?_ | refine blk_alloc ?_ _)); exact BK305.out)) : gb313 ≠ gb305)); clear BK305; clear HB; have BK305 := n0_; have HB := n1_; have BK313 := n2_; have GW313 := n3_; have GE313 := n4_; have NB305_313 := n5_; have NB313_305 := n6_; clear n0_ n1_ n2_ n3_ n4_ n5_ n6_; clear hb hbox hg; have hnb125 := NB313_305.out; have hnc125 := NB305_313.out; obtain ⟨hcz126_0, hcz126_1, hcz126_2, hfz126_0, hfz126_1, hfz126_2⟩ := cells3 BK313.out) | (go_at_call 35; (with_reducible refine (linkhouseref1_Name.calls k7 ((rd_T55 ((rd_T32 l0 a1).f5) x7_7).f0) false _ A88.out).mono ?_); rintro e w' ⟨rfl, ⟨nd, rfl⟩⟩; (try first | exact ⟨rfl, _, World.drewN_drewN _ _ _⟩ | exact ⟨rfl, _, Eq.trans (World.drewN_drewN _ _ _) (congrArg (World.drewN _) (Nat.add_assoc _ _ _))⟩)))
                         repeat (go_quiet (fail); try go_wp2)
                         go_ret
                         exact ⟨by first | rfl | (simp [errW_none, errW_some] <;> rfl) | (simp [*, errW_none, errW_some] <;> rfl), by repeat (first | (with_reducible first | exact HB.out | apply below_alloc | apply pw_below_drewN | apply below_drew1 | refine below_set ?_ GE305.out | refine below_set ?_ GE313.out) | exact HB.out)⟩
                       ·rw [if_neg c86] at H
                        have c86b0 : decide (x7_7 < (((rd_T32 l0 a1).f5).length : Int)) = false := decide_eq_false c86
                        clear c86
                        obtain rfl := Option.some.inj H
                        obtain ⟨hcz127_0, hcz127_1, hcz127_2, hcz127_3, hcz127_4, hcz127_5, hfz127_0, hfz127_1, hfz127_2, hfz127_3, hfz127_4, hfz127_5⟩ := cells6 BK305.out
                        go_wp2
                        repeat (go_quiet (fail); try go_wp2)
                        go_ret
                        exact ⟨by first | rfl | (simp [errW_none, errW_some] <;> rfl) | (simp [*, errW_none, errW_some] <;> rfl), by repeat (first | (with_reducible first | exact HB.out | apply below_alloc | apply pw_below_drewN | apply below_drew1 | refine below_set ?_ GE305.out) | exact HB.out)⟩
 ·replace c6 := Bool.eq_false_iff.mpr c6
  subst c6
  have H1 : (some 4) = some r := by rw [if_neg (show ¬ (false = true) by decide)] at H; exact H
  replace H := H1; clear H1
  obtain rfl := Option.some.inj H
  have p304 : 0 ≤ (a1 : Int) := of_decide_eq_true (by first | (with_reducible assumption) | assumption)
  have q304 : a1 < (l0.length : Int) := of_decide_eq_true (by first | (with_reducible assumption) | assumption)
  obtain ⟨ad304, A304_5, c304_5, e304, hx304_0, hx304_1, hx304_2, hx304_3, hx304_4, hx304_5, hl304_5, hi304_5⟩ := at_T32 HR0.out a1 p304 q304
  cases e304
  have HR304_5 := Aside0.mk hi304_5
  have HC304_5 := Aside0.mk hl304_5
  clear hi304_5 hl304_5
  replace p304 := eq_true p304
  replace q304 := eq_true q304
  go_enter Try.func27, Try.ntmps27
  go_wp2_with (first | ((with_reducible refine gate_dst (N := 5) rfl ?_); (try (refine gate_guard (by rfl) ?_; dsimp only)); refine box_event ?hg (N := 5) ?hd (cs := #[.int .i64 0, .string (⟨#[]⟩ : ByteArray), .int .i64 0, .int .i64 0, .int .i64 0, .slice none 0 0]) (t := 32) ?hr ?_; (case hd => rfl); (case hg => rfl); (case hr => first | (go_simp; done) | (go_simp; rfl)); intro gb305 hg w128 hbox hb; have n0_ := Aside0.mk (below_step (by repeat (first | (with_reducible first | exact HB.out | apply below_alloc | apply pw_below_drewN | apply below_drew1) | exact HB.out)) hb); have n1_ := Aside0.mk (hbox); have n2_ := Aside0.mk ((by rw [hg]; exact (below_size (by repeat (first | (with_reducible first | exact HB.out | apply below_alloc | apply pw_below_drewN | apply below_drew1) | exact HB.out))) : w.heap.size ≤ gb305)); have n3_ := Aside0.mk ((by rw [hg]; exact (below_size (by repeat (first | (with_reducible first | exact HB.out | apply below_alloc | apply pw_below_drewN | apply below_drew1) | exact HB.out))) : w.heap.size ≤ gb305)); clear HB; have HB := n0_; have BK305 := n1_; have GW305 := n2_; have GE305 := n3_; clear n0_ n1_ n2_ n3_; clear hb hbox hg; obtain ⟨hcz129_0, hcz129_1, hcz129_2, hcz129_3, hcz129_4, hcz129_5, hfz129_0, hfz129_1, hfz129_2, hfz129_3, hfz129_4, hfz129_5⟩ := cells6 BK305.out) | (go_at_call 20; (with_reducible refine (linkhouseref1_In.calls ((rd_T32 l0 a1).f0) 1 4 false _ A5.out).mono ?_); rintro e w' ⟨rfl, ⟨nd, rfl⟩⟩; (try first | exact ⟨rfl, _, World.drewN_drewN _ _ _⟩ | exact ⟨rfl, _, Eq.trans (World.drewN_drewN _ _ _) (congrArg (World.drewN _) (Nat.add_assoc _ _ _))⟩)))
  repeat (go_quiet (fail); try go_wp2)
  go_ret
  exact ⟨by first | rfl | (simp [errW_none, errW_some] <;> rfl) | (simp [*, errW_none, errW_some] <;> rfl), by repeat (first | (with_reducible first | exact HB.out | apply below_alloc | apply pw_below_drewN | apply below_drew1 | refine below_set ?_ GE305.out) | exact HB.out)⟩

end Go.Proofs.Ytpmlcmdojmdmhaa.PR
