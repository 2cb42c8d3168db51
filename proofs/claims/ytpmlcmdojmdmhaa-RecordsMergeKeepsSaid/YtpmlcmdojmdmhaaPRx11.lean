-- Written by a program of this session's own for function contracts (after the kit's print): not trusted, Lean checks it.
import Derived.Test.YtpmlcmdojmdmhaaPRx0
import Derived.Test.YtpmlcmdojmdmhaaPRxS
import Derived.Test.YtpmlcmdojmdmhaaPRx10
namespace Go.Proofs.Ytpmlcmdojmdmhaa.PR
open Go.RowKit Go.Proofs.YtpmlcmdojmdmhaaW.PrintWords Go.Proofs.YtpmlcmdojmdmhaaW.PrintLast Go.Proofs.YtpmlcmdojmdmhaaW.PrintMore
attribute [local go_sem] max2_int min2_int max_two min_two max_three min_three max_four min_four   -- for this text's walks alone
set_option linter.unusedVariables false
set_option linter.unusedSimpArgs false

/-! ### records_field: function 34 -/
mutual
def records_field.j0 : Nat → List (S32) → Int → Int → Int → Int → ByteArray → Int → Int → Int → List (S55) → ByteArray → Int → Int → Option (Int)
  | 0, _, _, _, _, _, _, _, _, _, _, _, _, _ => none
  | k + 1, x0, x1, x2, x9, x112000, x112001, x112002, x112003, x112004, x112005, x114000, x114001, x114002 => (token_IsName.f k x114000).bind fun t117 => (if t117 = true then (if 0 ≤ x2 then (if x2 ≤ (x112005.length : Int) then ((api_Field_42.f k (x112005.take (x2 : Int).toNat) x114000).bind fun t122 => (if t122 = true then (some 7) else (if x114001 < 0 then (records_field.j1 k x0 x9 true x112000 x112001 x112002 x112003 x112004 x112005 x114000 x114001 x114002) else (records_field.j1 k x0 x9 (decide (x114001 ≥ x1)) x112000 x112001 x112002 x112003 x112004 x112005 x114000 x114001 x114002)))) else (none)) else (none)) else (some 12))
def records_field.j1 : Nat → List (S32) → Int → Bool → Int → ByteArray → Int → Int → Int → List (S55) → ByteArray → Int → Int → Option (Int)
  | 0, _, _, _, _, _, _, _, _, _, _, _, _ => none
  | k + 1, x0, x9, x49, x112000, x112001, x112002, x112003, x112004, x112005, x114000, x114001, x114002 => if x49 = true then (some 3) else (if x114002 < x9 then (some 5) else (if x114002 > x112002 then (some 5) else (if 0 ≤ x114001 then (if x114001 < (x0.length : Int) then (if (wrap64 (x114002 + ((rd_T32 x0 x114001).f2))) > x112002 then (some 5) else (some 0)) else (none)) else (none))))
end
def records_field.f (k : Nat) (l0 : List (S32)) (a1 : Int) (a2 : Int) : Option (Int) := if 0 ≤ a1 then (if a1 < (l0.length : Int) then (if 0 ≤ a2 then (if a2 < (((rd_T32 l0 a1).f5).length : Int) then (if a2 > 0 then (if 0 ≤ (wrap64 (a2 - 1)) then (if (wrap64 (a2 - 1)) < (((rd_T32 l0 a1).f5).length : Int) then (if 0 ≤ ((rd_T55 ((rd_T32 l0 a1).f5) (wrap64 (a2 - 1))).f1) then (if ((rd_T55 ((rd_T32 l0 a1).f5) (wrap64 (a2 - 1))).f1) < (l0.length : Int) then (records_field.j0 k l0 a1 a2 (wrap64 (((rd_T55 ((rd_T32 l0 a1).f5) (wrap64 (a2 - 1))).f2) + ((rd_T32 l0 ((rd_T55 ((rd_T32 l0 a1).f5) (wrap64 (a2 - 1))).f1)).f2))) ((rd_T32 l0 a1).f0) ((rd_T32 l0 a1).f1) ((rd_T32 l0 a1).f2) ((rd_T32 l0 a1).f3) ((rd_T32 l0 a1).f4) ((rd_T32 l0 a1).f5) ((rd_T55 ((rd_T32 l0 a1).f5) a2).f0) ((rd_T55 ((rd_T32 l0 a1).f5) a2).f1) ((rd_T55 ((rd_T32 l0 a1).f5) a2).f2)) else (none)) else (none)) else (none)) else (none)) else (records_field.j0 k l0 a1 a2 0 ((rd_T32 l0 a1).f0) ((rd_T32 l0 a1).f1) ((rd_T32 l0 a1).f2) ((rd_T32 l0 a1).f3) ((rd_T32 l0 a1).f4) ((rd_T32 l0 a1).f5) ((rd_T55 ((rd_T32 l0 a1).f5) a2).f0) ((rd_T55 ((rd_T32 l0 a1).f5) a2).f1) ((rd_T55 ((rd_T32 l0 a1).f5) a2).f2))) else (none)) else (none)) else (none)) else (none)
set_option maxHeartbeats 8000000 in
set_option maxRecDepth 100000 in
theorem records_field.calls (k : Nat) (A0 : Option Addr) (c0 : Nat) (l0 : List (S32)) (a1 : Int) (a2 : Int) (r : Int) (w : World) (hr0 : Kd.C k32 w A0 l0.length l0) (hc0 : l0.length ≤ c0) (h : records_field.f k l0 a1 a2 = some r) :
  Calls Try.prog 34 #[.slice A0 l0.length c0, .int .i64 a1, .int .i64 a2] w fun e w' => e = .returned (.int .i64 r) ∧ Below w.heap.size w w' := by
 have hu32 := Try.underlying32
 have hu55 := Try.underlying55
 have HR0 := Aside0.mk hr0
 have HC0 := Aside0.mk hc0
 clear hr0 hc0
 have HB := Aside0.mk (Below.refl w.heap.size w)
 have H : (if 0 ≤ a1 then (if a1 < (l0.length : Int) then (if 0 ≤ a2 then (if a2 < (((rd_T32 l0 a1).f5).length : Int) then (if a2 > 0 then (if 0 ≤ (wrap64 (a2 - 1)) then (if (wrap64 (a2 - 1)) < (((rd_T32 l0 a1).f5).length : Int) then (if 0 ≤ ((rd_T55 ((rd_T32 l0 a1).f5) (wrap64 (a2 - 1))).f1) then (if ((rd_T55 ((rd_T32 l0 a1).f5) (wrap64 (a2 - 1))).f1) < (l0.length : Int) then (records_field.j0 k l0 a1 a2 (wrap64 (((rd_T55 ((rd_T32 l0 a1).f5) (wrap64 (a2 - 1))).f2) + ((rd_T32 l0 ((rd_T55 ((rd_T32 l0 a1).f5) (wrap64 (a2 - 1))).f1)).f2))) ((rd_T32 l0 a1).f0) ((rd_T32 l0 a1).f1) ((rd_T32 l0 a1).f2) ((rd_T32 l0 a1).f3) ((rd_T32 l0 a1).f4) ((rd_T32 l0 a1).f5) ((rd_T55 ((rd_T32 l0 a1).f5) a2).f0) ((rd_T55 ((rd_T32 l0 a1).f5) a2).f1) ((rd_T55 ((rd_T32 l0 a1).f5) a2).f2)) else (none)) else (none)) else (none)) else (none)) else (records_field.j0 k l0 a1 a2 0 ((rd_T32 l0 a1).f0) ((rd_T32 l0 a1).f1) ((rd_T32 l0 a1).f2) ((rd_T32 l0 a1).f3) ((rd_T32 l0 a1).f4) ((rd_T32 l0 a1).f5) ((rd_T55 ((rd_T32 l0 a1).f5) a2).f0) ((rd_T55 ((rd_T32 l0 a1).f5) a2).f1) ((rd_T55 ((rd_T32 l0 a1).f5) a2).f2))) else (none)) else (none)) else (none)) else (none)) = some r := h
 clear h
 by_cases c4 : 0 ≤ a1
 case neg => rw [if_neg c4] at H; exact absurd H (by simp)
 rw [if_pos c4] at H
 have c4b0 : decide (0 ≤ a1) = true := decide_eq_true c4
 clear c4
 by_cases c5 : a1 < (l0.length : Int)
 case neg => rw [if_neg c5] at H; exact absurd H (by simp)
 rw [if_pos c5] at H
 have c5b0 : decide (a1 < (l0.length : Int)) = true := decide_eq_true c5
 clear c5
 by_cases c6 : 0 ≤ a2
 case neg => rw [if_neg c6] at H; exact absurd H (by simp)
 rw [if_pos c6] at H
 have c6b0 : decide (0 ≤ a2) = true := decide_eq_true c6
 clear c6
 by_cases c7 : a2 < (((rd_T32 l0 a1).f5).length : Int)
 case neg => rw [if_neg c7] at H; exact absurd H (by simp)
 rw [if_pos c7] at H
 have c7b0 : decide (a2 < (((rd_T32 l0 a1).f5).length : Int)) = true := decide_eq_true c7
 clear c7
 have HC8 := Aside0.mk H
 clear H
 have p110 : 0 ≤ (a1 : Int) := of_decide_eq_true (by first | (with_reducible assumption) | assumption)
 have q110 : a1 < (l0.length : Int) := of_decide_eq_true (by first | (with_reducible assumption) | assumption)
 obtain ⟨ad110, A110_5, c110_5, e110, hx110_0, hx110_1, hx110_2, hx110_3, hx110_4, hx110_5, hl110_5, hi110_5⟩ := at_T32 HR0.out a1 p110 q110
 cases e110
 have HR110_5 := Aside0.mk hi110_5
 have HC110_5 := Aside0.mk hl110_5
 clear hi110_5 hl110_5
 replace p110 := eq_true p110
 replace q110 := eq_true q110
 go_enter Try.func34, Try.ntmps34
 go_upto_if 21 with (first | ((with_reducible refine gate_dst (N := 7) rfl ?_); refine box_event ?hg (N := 7) ?hd (cs := #[.int .i64 0, .string (⟨#[]⟩ : ByteArray), .int .i64 0, .int .i64 0, .int .i64 0, .slice none 0 0]) (t := 32) ?hr ?_; (case hd => rfl); (case hg => rfl); (case hr => first | (go_simp; done) | (go_simp; rfl)); intro gb111 hg w9 hbox hb; have n0_ := Aside0.mk (below_step (by repeat (first | (with_reducible first | exact HB.out | apply below_alloc | apply pw_below_drewN | apply below_drew1) | exact HB.out)) hb); have n1_ := Aside0.mk (hbox); have n2_ := Aside0.mk ((by rw [hg]; exact (below_size (by repeat (first | (with_reducible first | exact HB.out | apply below_alloc | apply pw_below_drewN | apply below_drew1) | exact HB.out))) : w.heap.size ≤ gb111)); have n3_ := Aside0.mk ((by rw [hg]; exact (below_size (by repeat (first | (with_reducible first | exact HB.out | apply below_alloc | apply pw_below_drewN | apply below_drew1) | exact HB.out))) : w.heap.size ≤ gb111)); clear HB; have HB := n0_; have BK111 := n1_; have GW111 := n2_; have GE111 := n3_; clear n0_ n1_ n2_ n3_; clear hb hbox hg; obtain ⟨hcz10_0, hcz10_1, hcz10_2, hcz10_3, hcz10_4, hcz10_5, hfz10_0, hfz10_1, hfz10_2, hfz10_3, hfz10_4, hfz10_5⟩ := cells6 BK111.out; have p112 : 0 ≤ (a2 : Int) := of_decide_eq_true (by first | (with_reducible assumption) | assumption); have q112 : a2 < (((rd_T32 l0 a1).f5).length : Int) := of_decide_eq_true (by first | (with_reducible assumption) | assumption); obtain ⟨ad112, e112, hx112_0, hx112_1, hx112_2⟩ := at_T55 HR110_5.out a2 p112 q112; cases e112; have hn112_0 : ad112.block ≠ gb111 := Nat.ne_of_lt (Nat.lt_of_lt_of_le (by have := World.block_lt_of_cell? _ _ hx112_0; first | rwa [add_block] at this | exact this) GW111.out); have hn112_1 : ad112.block ≠ gb111 := Nat.ne_of_lt (Nat.lt_of_lt_of_le (by have := World.block_lt_of_cell? _ _ hx112_0; first | rwa [add_block] at this | exact this) GW111.out); have hn112_2 : ad112.block ≠ gb111 := Nat.ne_of_lt (Nat.lt_of_lt_of_le (by have := World.block_lt_of_cell? _ _ hx112_0; first | rwa [add_block] at this | exact this) GW111.out); have hn112_3 : ad112.block ≠ gb111 := Nat.ne_of_lt (Nat.lt_of_lt_of_le (by have := World.block_lt_of_cell? _ _ hx112_0; first | rwa [add_block] at this | exact this) GW111.out); have hn112_4 : ad112.block ≠ gb111 := Nat.ne_of_lt (Nat.lt_of_lt_of_le (by have := World.block_lt_of_cell? _ _ hx112_0; first | rwa [add_block] at this | exact this) GW111.out); have hn112_5 : ad112.block ≠ gb111 := Nat.ne_of_lt (Nat.lt_of_lt_of_le (by have := World.block_lt_of_cell? _ _ hx112_0; first | rwa [add_block] at this | exact this) GW111.out); replace hx112_0 := (HB.out.cell (World.block_lt_of_cell? w _ hx112_0)).trans hx112_0; replace hx112_1 := (HB.out.cell (World.block_lt_of_cell? w _ hx112_1)).trans hx112_1; replace hx112_2 := (HB.out.cell (World.block_lt_of_cell? w _ hx112_2)).trans hx112_2; replace hx112_0 := (cell_far (p := ⟨gb111, 0, none⟩) (by first | (rw [add_block]; exact hn112_0) | (show (Addr.add _ _).block ≠ _; rw [add_block]; exact hn112_0) | exact hn112_0) (.int .i64 ((rd_T32 l0 a1).f0))).trans hx112_0; replace hx112_1 := (cell_far (p := ⟨gb111, 0, none⟩) (by first | (rw [add_block]; exact hn112_0) | (show (Addr.add _ _).block ≠ _; rw [add_block]; exact hn112_0) | exact hn112_0) (.int .i64 ((rd_T32 l0 a1).f0))).trans hx112_1; replace hx112_2 := (cell_far (p := ⟨gb111, 0, none⟩) (by first | (rw [add_block]; exact hn112_0) | (show (Addr.add _ _).block ≠ _; rw [add_block]; exact hn112_0) | exact hn112_0) (.int .i64 ((rd_T32 l0 a1).f0))).trans hx112_2; replace hx112_0 := (cell_far (p := ⟨gb111, 1, none⟩) (by first | (rw [add_block]; exact hn112_1) | (show (Addr.add _ _).block ≠ _; rw [add_block]; exact hn112_1) | exact hn112_1) (.string ((rd_T32 l0 a1).f1))).trans hx112_0; replace hx112_1 := (cell_far (p := ⟨gb111, 1, none⟩) (by first | (rw [add_block]; exact hn112_1) | (show (Addr.add _ _).block ≠ _; rw [add_block]; exact hn112_1) | exact hn112_1) (.string ((rd_T32 l0 a1).f1))).trans hx112_1; replace hx112_2 := (cell_far (p := ⟨gb111, 1, none⟩) (by first | (rw [add_block]; exact hn112_1) | (show (Addr.add _ _).block ≠ _; rw [add_block]; exact hn112_1) | exact hn112_1) (.string ((rd_T32 l0 a1).f1))).trans hx112_2; replace hx112_0 := (cell_far (p := ⟨gb111, 2, none⟩) (by first | (rw [add_block]; exact hn112_2) | (show (Addr.add _ _).block ≠ _; rw [add_block]; exact hn112_2) | exact hn112_2) (.int .i64 ((rd_T32 l0 a1).f2))).trans hx112_0; replace hx112_1 := (cell_far (p := ⟨gb111, 2, none⟩) (by first | (rw [add_block]; exact hn112_2) | (show (Addr.add _ _).block ≠ _; rw [add_block]; exact hn112_2) | exact hn112_2) (.int .i64 ((rd_T32 l0 a1).f2))).trans hx112_1; replace hx112_2 := (cell_far (p := ⟨gb111, 2, none⟩) (by first | (rw [add_block]; exact hn112_2) | (show (Addr.add _ _).block ≠ _; rw [add_block]; exact hn112_2) | exact hn112_2) (.int .i64 ((rd_T32 l0 a1).f2))).trans hx112_2; replace hx112_0 := (cell_far (p := ⟨gb111, 3, none⟩) (by first | (rw [add_block]; exact hn112_3) | (show (Addr.add _ _).block ≠ _; rw [add_block]; exact hn112_3) | exact hn112_3) (.int .i64 ((rd_T32 l0 a1).f3))).trans hx112_0; replace hx112_1 := (cell_far (p := ⟨gb111, 3, none⟩) (by first | (rw [add_block]; exact hn112_3) | (show (Addr.add _ _).block ≠ _; rw [add_block]; exact hn112_3) | exact hn112_3) (.int .i64 ((rd_T32 l0 a1).f3))).trans hx112_1; replace hx112_2 := (cell_far (p := ⟨gb111, 3, none⟩) (by first | (rw [add_block]; exact hn112_3) | (show (Addr.add _ _).block ≠ _; rw [add_block]; exact hn112_3) | exact hn112_3) (.int .i64 ((rd_T32 l0 a1).f3))).trans hx112_2; replace hx112_0 := (cell_far (p := ⟨gb111, 4, none⟩) (by first | (rw [add_block]; exact hn112_4) | (show (Addr.add _ _).block ≠ _; rw [add_block]; exact hn112_4) | exact hn112_4) (.int .i64 ((rd_T32 l0 a1).f4))).trans hx112_0; replace hx112_1 := (cell_far (p := ⟨gb111, 4, none⟩) (by first | (rw [add_block]; exact hn112_4) | (show (Addr.add _ _).block ≠ _; rw [add_block]; exact hn112_4) | exact hn112_4) (.int .i64 ((rd_T32 l0 a1).f4))).trans hx112_1; replace hx112_2 := (cell_far (p := ⟨gb111, 4, none⟩) (by first | (rw [add_block]; exact hn112_4) | (show (Addr.add _ _).block ≠ _; rw [add_block]; exact hn112_4) | exact hn112_4) (.int .i64 ((rd_T32 l0 a1).f4))).trans hx112_2; replace hx112_0 := (cell_far (p := ⟨gb111, 5, none⟩) (by first | (rw [add_block]; exact hn112_5) | (show (Addr.add _ _).block ≠ _; rw [add_block]; exact hn112_5) | exact hn112_5) (.slice (some ad112) ((rd_T32 l0 a1).f5).length c110_5)).trans hx112_0; replace hx112_1 := (cell_far (p := ⟨gb111, 5, none⟩) (by first | (rw [add_block]; exact hn112_5) | (show (Addr.add _ _).block ≠ _; rw [add_block]; exact hn112_5) | exact hn112_5) (.slice (some ad112) ((rd_T32 l0 a1).f5).length c110_5)).trans hx112_1; replace hx112_2 := (cell_far (p := ⟨gb111, 5, none⟩) (by first | (rw [add_block]; exact hn112_5) | (show (Addr.add _ _).block ≠ _; rw [add_block]; exact hn112_5) | exact hn112_5) (.slice (some ad112) ((rd_T32 l0 a1).f5).length c110_5)).trans hx112_2; clear hn112_0; clear hn112_1; clear hn112_2; clear hn112_3; clear hn112_4; clear hn112_5; replace p112 := eq_true p112; replace q112 := eq_true q112) | ((with_reducible refine gate_dst (N := 8) rfl ?_); refine box_event ?hg (N := 8) ?hd (cs := #[.string (⟨#[]⟩ : ByteArray), .int .i64 0, .int .i64 0]) (t := 55) ?hr ?_; (case hd => rfl); (case hg => rfl); (case hr => first | (go_simp; done) | (go_simp; rfl)); intro gb113 hg w11 hbox hb; have n0_ := Aside0.mk (blk_below (g := gb111) (o := .cells #[.int .i64 ((rd_T32 l0 a1).f0), .string ((rd_T32 l0 a1).f1), .int .i64 ((rd_T32 l0 a1).f2), .int .i64 ((rd_T32 l0 a1).f3), .int .i64 ((rd_T32 l0 a1).f4), .slice (some ad112) ((rd_T32 l0 a1).f5).length c110_5] 32 (0, 0)) (by (with_reducible repeat (first | refine blk_drewN ?_ _ | refine blk_drew ?_ | refine blk_alloc ?_ _)); refine blk_put (cs := #[.int .i64 ((rd_T32 l0 a1).f0), .string ((rd_T32 l0 a1).f1), .int .i64 ((rd_T32 l0 a1).f2), .int .i64 ((rd_T32 l0 a1).f3), .int .i64 ((rd_T32 l0 a1).f4), .slice none 0 0]) ?_ 5 _ rfl; (with_reducible repeat (first | refine blk_drewN ?_ _ | refine blk_drew ?_ | refine blk_alloc ?_ _)); refine blk_put (cs := #[.int .i64 ((rd_T32 l0 a1).f0), .string ((rd_T32 l0 a1).f1), .int .i64 ((rd_T32 l0 a1).f2), .int .i64 ((rd_T32 l0 a1).f3), .int .i64 0, .slice none 0 0]) ?_ 4 _ rfl; (with_reducible repeat (first | refine blk_drewN ?_ _ | refine blk_drew ?_ | refine blk_alloc ?_ _)); refine blk_put (cs := #[.int .i64 ((rd_T32 l0 a1).f0), .string ((rd_T32 l0 a1).f1), .int .i64 ((rd_T32 l0 a1).f2), .int .i64 0, .int .i64 0, .slice none 0 0]) ?_ 3 _ rfl; (with_reducible repeat (first | refine blk_drewN ?_ _ | refine blk_drew ?_ | refine blk_alloc ?_ _)); refine blk_put (cs := #[.int .i64 ((rd_T32 l0 a1).f0), .string ((rd_T32 l0 a1).f1), .int .i64 0, .int .i64 0, .int .i64 0, .slice none 0 0]) ?_ 2 _ rfl; (with_reducible repeat (first | refine blk_drewN ?_ _ | refine blk_drew ?_ | refine blk_alloc ?_ _)); refine blk_put (cs := #[.int .i64 ((rd_T32 l0 a1).f0), .string (⟨#[]⟩ : ByteArray), .int .i64 0, .int .i64 0, .int .i64 0, .slice none 0 0]) ?_ 1 _ rfl; (with_reducible repeat (first | refine blk_drewN ?_ _ | refine blk_drew ?_ | refine blk_alloc ?_ _)); refine blk_put (cs := #[.int .i64 0, .string (⟨#[]⟩ : ByteArray), .int .i64 0, .int .i64 0, .int .i64 0, .slice none 0 0]) ?_ 0 _ rfl; (with_reducible repeat (first | refine blk_drewN ?_ _ | refine blk_drew ?_ | refine blk_alloc ?_ _)); exact BK111.out) hb); have n1_ := Aside0.mk (below_step (by repeat (first | (with_reducible first | exact HB.out | apply below_alloc | apply pw_below_drewN | apply below_drew1 | refine below_set ?_ GE111.out) | exact HB.out)) hb); have n2_ := Aside0.mk (hbox); have n3_ := Aside0.mk ((by rw [hg]; exact (below_size (by repeat (first | (with_reducible first | exact HB.out | apply below_alloc | apply pw_below_drewN | apply below_drew1 | refine below_set ?_ GE111.out) | exact HB.out))) : w.heap.size ≤ gb113)); have n4_ := Aside0.mk ((by rw [hg]; exact (below_size (by repeat (first | (with_reducible first | exact HB.out | apply below_alloc | apply pw_below_drewN | apply below_drew1 | refine below_set ?_ GE111.out) | exact HB.out))) : w.heap.size ≤ gb113)); have n5_ := Aside0.mk ((by rw [hg]; exact Nat.ne_of_lt (blk_lt (g := gb111) (o := .cells #[.int .i64 ((rd_T32 l0 a1).f0), .string ((rd_T32 l0 a1).f1), .int .i64 ((rd_T32 l0 a1).f2), .int .i64 ((rd_T32 l0 a1).f3), .int .i64 ((rd_T32 l0 a1).f4), .slice (some ad112) ((rd_T32 l0 a1).f5).length c110_5] 32 (0, 0)) (by (with_reducible repeat (first | refine blk_drewN ?_ _ | refine blk_drew ?_ | refine blk_alloc ?_ _)); refine blk_put (cs := #[.int .i64 ((rd_T32 l0 a1).f0), .string ((rd_T32 l0 a1).f1), .int .i64 ((rd_T32 l0 a1).f2), .int .i64 ((rd_T32 l0 a1).f3), .int .i64 ((rd_T32 l0 a1).f4), .slice none 0 0]) ?_ 5 _ rfl; (with_reducible repeat (first | refine blk_drewN ?_ _ | refine blk_drew ?_ | refine blk_alloc ?_ _)); refine blk_put (cs := #[.int .i64 ((rd_T32 l0 a1).f0), .string ((rd_T32 l0 a1).f1), .int .i64 ((rd_T32 l0 a1).f2), .int .i64 ((rd_T32 l0 a1).f3), .int .i64 0, .slice none 0 0]) ?_ 4 _ rfl; (with_reducible repeat (first | refine blk_drewN ?_ _ | refine blk_drew ?_ | refine blk_alloc ?_ _)); refine blk_put (cs := #[.int .i64 ((rd_T32 l0 a1).f0), .string ((rd_T32 l0 a1).f1), .int .i64 ((rd_T32 l0 a1).f2), .int .i64 0, .int .i64 0, .slice none 0 0]) ?_ 3 _ rfl; (with_reducible repeat (first | refine blk_drewN ?_ _ | refine blk_drew ?_ | refine blk_alloc ?_ _)); refine blk_put (cs := #[.int .i64 ((rd_T32 l0 a1).f0), .string ((rd_T32 l0 a1).f1), .int .i64 0, .int .i64 0, .int .i64 0, .slice none 0 0]) ?_ 2 _ rfl; (with_reducible repeat (first | refine blk_drewN ?_ _ | refine blk_drew ?_ | refine blk_alloc ?_ _)); refine blk_put (cs := #[.int .i64 ((rd_T32 l0 a1).f0), .string (⟨#[]⟩ : ByteArray), .int .i64 0, .int .i64 0, .int .i64 0, .slice none 0 0]) ?_ 1 _ rfl; (with_reducible repeat (first | refine blk_drewN ?_ _ | refine blk_drew ?_ | refine blk_alloc ?_ _)); refine blk_put (cs := #[.int .i64 0, .string (⟨#[]⟩ : ByteArray), .int .i64 0, .int .i64 0, .int .i64 0, .slice none 0 0]) ?_ 0 _ rfl; (with_reducible repeat (first | refine blk_drewN ?_ _ | refine blk_drew ?_ | refine blk_alloc ?_ _)); exact BK111.out)) : gb111 ≠ gb113)); have n6_ := Aside0.mk ((by rw [hg]; exact Nat.ne_of_gt (blk_lt (g := gb111) (o := .cells #[.int .i64 ((rd_T32 l0 a1).f0), .string ((rd_T32 l0 a1).f1), .int .i64 ((rd_T32 l0 a1).f2), .int .i64 ((rd_T32 l0 a1).f3), .int .i64 ((rd_T32 l0 a1).f4), .slice (some ad112) ((rd_T32 l0 a1).f5).length c110_5] 32 (0, 0)) (by (with_reducible repeat (first | refine blk_drewN ?_ _ | refine blk_drew ?_ | refine blk_alloc ?_ _)); refine blk_put (cs := #[.int .i64 ((rd_T32 l0 a1).f0), .string ((rd_T32 l0 a1).f1), .int .i64 ((rd_T32 l0 a1).f2), .int .i64 ((rd_T32 l0 a1).f3), .int .i64 ((rd_T32 l0 a1).f4), .slice none 0 0]) ?_ 5 _ rfl; (with_reducible repeat (first | refine blk_drewN ?_ _ | refine blk_drew ?_ | refine blk_alloc ?_ _)); refine blk_put (cs := #[.int .i64 ((rd_T32 l0 a1).f0), .string ((rd_T32 l0 a1).f1), .int .i64 ((rd_T32 l0 a1).f2), .int .i64 ((rd_T32 l0 a1).f3), .int .i64 0, .slice none 0 0]) ?_ 4 _ rfl; (with_reducible repeat (first | refine blk_drewN ?_ _ | refine blk_drew ?_ | refine blk_alloc ?_ _)); refine blk_put (cs := #[.int .i64 ((rd_T32 l0 a1).f0), .string ((rd_T32 l0 a1).f1), .int .i64 ((rd_T32 l0 a1).f2), .int .i64 0, .int .i64 0, .slice none 0 0]) ?_ 3 _ rfl; (with_reducible repeat (first | refine blk_drewN ?_ _ | refine blk_drew ?_ | refine blk_alloc ?_ _)); refine blk_put (cs := #[.int .i64 ((rd_T32 l0 a1).f0), .string ((rd_T32 l0 a1).f1), .int .i64 0, .int .i64 0, .int .i64 0, .slice none 0 0]) ?_ 2 _ rfl; (with_reducible repeat (first | refine blk_drewN ?_ _ | refine blk_drew ?_ | refine blk_alloc ?_ _)); refine blk_put (cs := #[.int .i64 ((rd_T32 l0 a1).f0), .string (⟨#[]⟩ : ByteArray), .int .i64 0, .int .i64 0, .int .i64 0, .slice none 0 0]) ?_ 1 _ rfl; (with_reducible repeat (first | refine blk_drewN ?_ _ | refine blk_drew ?_ | refine blk_alloc ?_ _)); refine blk_put (cs := #[.int .i64 0, .string (⟨#[]⟩ : ByteArray), .int .i64 0, .int .i64 0, .int .i64 0, .slice none 0 0]) ?_ 0 _ rfl; (with_reducible repeat (first | refine blk_drewN ?_ _ | refine blk_drew ?_ | refine blk_alloc ?_ _)); exact BK111.out)) : gb113 ≠ gb111)); clear BK111; clear HB; have BK111 := n0_; have HB := n1_; have BK113 := n2_; have GW113 := n3_; have GE113 := n4_; have NB111_113 := n5_; have NB113_111 := n6_; clear n0_ n1_ n2_ n3_ n4_ n5_ n6_; clear hb hbox hg; have hnb12 := NB113_111.out; have hnc12 := NB111_113.out; obtain ⟨hcz13_0, hcz13_1, hcz13_2, hfz13_0, hfz13_1, hfz13_2⟩ := cells3 BK113.out))
 repeat (go_quiet (fail); go_upto_if 21 with (fail))
 (try simp only [Act.put, List.setIfInBounds_toArray, List.set_cons_zero, List.set_cons_succ])
 go_cut [9] (fun v9 wc => ∃ (kq : Nat) (x9_7 : Int), v9 = .int .i64 x9_7 ∧ Aside0 (records_field.j0 kq l0 a1 a2 x9_7 ((rd_T32 l0 a1).f0) ((rd_T32 l0 a1).f1) ((rd_T32 l0 a1).f2) ((rd_T32 l0 a1).f3) ((rd_T32 l0 a1).f4) ((rd_T32 l0 a1).f5) ((rd_T55 ((rd_T32 l0 a1).f5) a2).f0) ((rd_T55 ((rd_T32 l0 a1).f5) a2).f1) ((rd_T55 ((rd_T32 l0 a1).f5) a2).f2) = some r) ∧ Aside0 (kq ≤ k) ∧ Aside0 (wc.heap[gb111]? = some (.cells #[.int .i64 ((rd_T32 l0 a1).f0), .string ((rd_T32 l0 a1).f1), .int .i64 ((rd_T32 l0 a1).f2), .int .i64 ((rd_T32 l0 a1).f3), .int .i64 ((rd_T32 l0 a1).f4), (.slice (some ad112) ((rd_T32 l0 a1).f5).length c110_5)] 32 (0, 0))) ∧ Aside0 (wc.heap[gb113]? = some (.cells #[.string ((rd_T55 ((rd_T32 l0 a1).f5) a2).f0), .int .i64 ((rd_T55 ((rd_T32 l0 a1).f5) a2).f1), .int .i64 ((rd_T55 ((rd_T32 l0 a1).f5) a2).f2)] 55 (0, 0))) ∧ Aside0 (Below w.heap.size w wc))
 case first =>
  have H := HC8.out
  clear HC8
  by_cases c14 : a2 > 0
  ·rw [if_pos c14] at H
   have c14b0 : decide (0 < a2) = true := decide_eq_true c14
   clear c14
   (first | rw [c14b0] | (simp only [i64_w, i32_w]; rw [c14b0]) | skip)
   obtain ⟨ji15, hji15⟩ : ∃ j_ : Int, (wrap64 (a2 - 1)) = j_ := ⟨_, rfl⟩
   replace H : (if 0 ≤ (ji15) then (if (ji15) < (((rd_T32 l0 a1).f5).length : Int) then (if 0 ≤ ((rd_T55 ((rd_T32 l0 a1).f5) (ji15)).f1) then (if ((rd_T55 ((rd_T32 l0 a1).f5) (ji15)).f1) < (l0.length : Int) then (records_field.j0 k l0 a1 a2 (wrap64 (((rd_T55 ((rd_T32 l0 a1).f5) (ji15)).f2) + ((rd_T32 l0 ((rd_T55 ((rd_T32 l0 a1).f5) (ji15)).f1)).f2))) ((rd_T32 l0 a1).f0) ((rd_T32 l0 a1).f1) ((rd_T32 l0 a1).f2) ((rd_T32 l0 a1).f3) ((rd_T32 l0 a1).f4) ((rd_T32 l0 a1).f5) ((rd_T55 ((rd_T32 l0 a1).f5) a2).f0) ((rd_T55 ((rd_T32 l0 a1).f5) a2).f1) ((rd_T55 ((rd_T32 l0 a1).f5) a2).f2)) else (none)) else (none)) else (none)) else (none)) = some r := by first | (rw [hji15] at H; exact H) | (simp only [hji15] at H ⊢; exact H)
   have hji15w : (IntKind.i64.wrap (a2 - 1)) = ji15 := (i64_w _).trans hji15
   by_cases c16 : 0 ≤ (ji15)
   case neg => rw [if_neg c16] at H; exact absurd H (by simp)
   rw [if_pos c16] at H
   have c16b0 : decide (0 ≤ (ji15)) = true := decide_eq_true c16
   clear c16
   by_cases c17 : (ji15) < (((rd_T32 l0 a1).f5).length : Int)
   case neg => rw [if_neg c17] at H; exact absurd H (by simp)
   rw [if_pos c17] at H
   have c17b0 : decide ((ji15) < (((rd_T32 l0 a1).f5).length : Int)) = true := decide_eq_true c17
   clear c17
   by_cases c18 : 0 ≤ ((rd_T55 ((rd_T32 l0 a1).f5) (ji15)).f1)
   case neg => rw [if_neg c18] at H; exact absurd H (by simp)
   rw [if_pos c18] at H
   have c18b0 : decide (0 ≤ ((rd_T55 ((rd_T32 l0 a1).f5) (ji15)).f1)) = true := decide_eq_true c18
   clear c18
   by_cases c19 : ((rd_T55 ((rd_T32 l0 a1).f5) (ji15)).f1) < (l0.length : Int)
   case neg => rw [if_neg c19] at H; exact absurd H (by simp)
   rw [if_pos c19] at H
   have c19b0 : decide (((rd_T55 ((rd_T32 l0 a1).f5) (ji15)).f1) < (l0.length : Int)) = true := decide_eq_true c19
   clear c19
   as_aux_lemma =>
    have H' := Aside0.mk H
    clear H
    have hnb20 := NB111_113.out
    have hnc20 := NB113_111.out
    obtain ⟨hcz21_0, hcz21_1, hcz21_2, hcz21_3, hcz21_4, hcz21_5, hfz21_0, hfz21_1, hfz21_2, hfz21_3, hfz21_4, hfz21_5⟩ := cells6 BK111.out
    have p114 : 0 ≤ ((ji15) : Int) := of_decide_eq_true (by first | (with_reducible assumption) | assumption)
    have q114 : (ji15) < (((rd_T32 l0 a1).f5).length : Int) := of_decide_eq_true (by first | (with_reducible assumption) | assumption)
    obtain ⟨ad114, e114, hx114_0, hx114_1, hx114_2⟩ := at_T55 HR110_5.out (ji15) p114 q114
    obtain rfl : ad112 = ad114 := (by injection e114)
    have hn114_0 : ad112.block ≠ gb113 := Nat.ne_of_lt (Nat.lt_of_lt_of_le (by have := World.block_lt_of_cell? _ _ hx114_0; first | rwa [add_block] at this | exact this) GW113.out)
    have hn114_1 : ad112.block ≠ gb113 := Nat.ne_of_lt (Nat.lt_of_lt_of_le (by have := World.block_lt_of_cell? _ _ hx114_0; first | rwa [add_block] at this | exact this) GW113.out)
    have hn114_2 : ad112.block ≠ gb113 := Nat.ne_of_lt (Nat.lt_of_lt_of_le (by have := World.block_lt_of_cell? _ _ hx114_0; first | rwa [add_block] at this | exact this) GW113.out)
    replace hx114_0 := (HB.out.cell (World.block_lt_of_cell? w _ hx114_0)).trans hx114_0
    replace hx114_1 := (HB.out.cell (World.block_lt_of_cell? w _ hx114_1)).trans hx114_1
    replace hx114_2 := (HB.out.cell (World.block_lt_of_cell? w _ hx114_2)).trans hx114_2
    replace hx114_0 := (cell_far (p := ⟨gb113, 0, none⟩) (by first | (rw [add_block]; exact hn114_0) | (show (Addr.add _ _).block ≠ _; rw [add_block]; exact hn114_0) | exact hn114_0) (.string ((rd_T55 ((rd_T32 l0 a1).f5) a2).f0))).trans hx114_0
    replace hx114_1 := (cell_far (p := ⟨gb113, 0, none⟩) (by first | (rw [add_block]; exact hn114_0) | (show (Addr.add _ _).block ≠ _; rw [add_block]; exact hn114_0) | exact hn114_0) (.string ((rd_T55 ((rd_T32 l0 a1).f5) a2).f0))).trans hx114_1
    replace hx114_2 := (cell_far (p := ⟨gb113, 0, none⟩) (by first | (rw [add_block]; exact hn114_0) | (show (Addr.add _ _).block ≠ _; rw [add_block]; exact hn114_0) | exact hn114_0) (.string ((rd_T55 ((rd_T32 l0 a1).f5) a2).f0))).trans hx114_2
    replace hx114_0 := (cell_far (p := ⟨gb113, 1, none⟩) (by first | (rw [add_block]; exact hn114_1) | (show (Addr.add _ _).block ≠ _; rw [add_block]; exact hn114_1) | exact hn114_1) (.int .i64 ((rd_T55 ((rd_T32 l0 a1).f5) a2).f1))).trans hx114_0
    replace hx114_1 := (cell_far (p := ⟨gb113, 1, none⟩) (by first | (rw [add_block]; exact hn114_1) | (show (Addr.add _ _).block ≠ _; rw [add_block]; exact hn114_1) | exact hn114_1) (.int .i64 ((rd_T55 ((rd_T32 l0 a1).f5) a2).f1))).trans hx114_1
    replace hx114_2 := (cell_far (p := ⟨gb113, 1, none⟩) (by first | (rw [add_block]; exact hn114_1) | (show (Addr.add _ _).block ≠ _; rw [add_block]; exact hn114_1) | exact hn114_1) (.int .i64 ((rd_T55 ((rd_T32 l0 a1).f5) a2).f1))).trans hx114_2
    replace hx114_0 := (cell_far (p := ⟨gb113, 2, none⟩) (by first | (rw [add_block]; exact hn114_2) | (show (Addr.add _ _).block ≠ _; rw [add_block]; exact hn114_2) | exact hn114_2) (.int .i64 ((rd_T55 ((rd_T32 l0 a1).f5) a2).f2))).trans hx114_0
    replace hx114_1 := (cell_far (p := ⟨gb113, 2, none⟩) (by first | (rw [add_block]; exact hn114_2) | (show (Addr.add _ _).block ≠ _; rw [add_block]; exact hn114_2) | exact hn114_2) (.int .i64 ((rd_T55 ((rd_T32 l0 a1).f5) a2).f2))).trans hx114_1
    replace hx114_2 := (cell_far (p := ⟨gb113, 2, none⟩) (by first | (rw [add_block]; exact hn114_2) | (show (Addr.add _ _).block ≠ _; rw [add_block]; exact hn114_2) | exact hn114_2) (.int .i64 ((rd_T55 ((rd_T32 l0 a1).f5) a2).f2))).trans hx114_2
            
            
            
    clear hn114_0
    clear hn114_1
    clear hn114_2
    replace p114 := eq_true p114
    replace q114 := eq_true q114
    go_wp2_with (first | ((with_reducible refine gate_dst (N := 10) rfl ?_); refine box_event ?hg (N := 10) ?hd (cs := #[.string (⟨#[]⟩ : ByteArray), .int .i64 0, .int .i64 0]) (t := 55) ?hr ?_; (case hd => rfl); (case hg => rfl); (case hr => first | (go_simp; done) | (go_simp; rfl)); intro gb115 hg w22 hbox hb; have n0_ := Aside0.mk (blk_below (g := gb111) (o := .cells #[.int .i64 ((rd_T32 l0 a1).f0), .string ((rd_T32 l0 a1).f1), .int .i64 ((rd_T32 l0 a1).f2), .int .i64 ((rd_T32 l0 a1).f3), .int .i64 ((rd_T32 l0 a1).f4), .slice (some ad112) ((rd_T32 l0 a1).f5).length c110_5] 32 (0, 0)) (by (with_reducible repeat (first | refine blk_drewN ?_ _ | refine blk_drew ?_ | refine blk_alloc ?_ _)); refine blk_far ?_ NB111_113.out _; (with_reducible repeat (first | refine blk_drewN ?_ _ | refine blk_drew ?_ | refine blk_alloc ?_ _)); refine blk_far ?_ NB111_113.out _; (with_reducible repeat (first | refine blk_drewN ?_ _ | refine blk_drew ?_ | refine blk_alloc ?_ _)); refine blk_far ?_ NB111_113.out _; (with_reducible repeat (first | refine blk_drewN ?_ _ | refine blk_drew ?_ | refine blk_alloc ?_ _)); exact BK111.out) hb); have n1_ := Aside0.mk (blk_below (g := gb113) (o := .cells #[.string ((rd_T55 ((rd_T32 l0 a1).f5) a2).f0), .int .i64 ((rd_T55 ((rd_T32 l0 a1).f5) a2).f1), .int .i64 ((rd_T55 ((rd_T32 l0 a1).f5) a2).f2)] 55 (0, 0)) (by (with_reducible repeat (first | refine blk_drewN ?_ _ | refine blk_drew ?_ | refine blk_alloc ?_ _)); refine blk_put (cs := #[.string ((rd_T55 ((rd_T32 l0 a1).f5) a2).f0), .int .i64 ((rd_T55 ((rd_T32 l0 a1).f5) a2).f1), .int .i64 0]) ?_ 2 _ rfl; (with_reducible repeat (first | refine blk_drewN ?_ _ | refine blk_drew ?_ | refine blk_alloc ?_ _)); refine blk_put (cs := #[.string ((rd_T55 ((rd_T32 l0 a1).f5) a2).f0), .int .i64 0, .int .i64 0]) ?_ 1 _ rfl; (with_reducible repeat (first | refine blk_drewN ?_ _ | refine blk_drew ?_ | refine blk_alloc ?_ _)); refine blk_put (cs := #[.string (⟨#[]⟩ : ByteArray), .int .i64 0, .int .i64 0]) ?_ 0 _ rfl; (with_reducible repeat (first | refine blk_drewN ?_ _ | refine blk_drew ?_ | refine blk_alloc ?_ _)); exact BK113.out) hb); have n2_ := Aside0.mk (below_step (by repeat (first | (with_reducible first | exact HB.out | apply below_alloc | apply pw_below_drewN | apply below_drew1 | refine below_set ?_ GE111.out | refine below_set ?_ GE113.out) | exact HB.out)) hb); have n3_ := Aside0.mk (hbox); have n4_ := Aside0.mk ((by rw [hg]; exact (below_size (by repeat (first | (with_reducible first | exact HB.out | apply below_alloc | apply pw_below_drewN | apply below_drew1 | refine below_set ?_ GE111.out | refine below_set ?_ GE113.out) | exact HB.out))) : w.heap.size ≤ gb115)); have n5_ := Aside0.mk ((by rw [hg]; exact (below_size (by repeat (first | (with_reducible first | exact HB.out | apply below_alloc | apply pw_below_drewN | apply below_drew1 | refine below_set ?_ GE111.out | refine below_set ?_ GE113.out) | exact HB.out))) : w.heap.size ≤ gb115)); have n6_ := Aside0.mk ((by rw [hg]; exact Nat.ne_of_lt (blk_lt (g := gb111) (o := .cells #[.int .i64 ((rd_T32 l0 a1).f0), .string ((rd_T32 l0 a1).f1), .int .i64 ((rd_T32 l0 a1).f2), .int .i64 ((rd_T32 l0 a1).f3), .int .i64 ((rd_T32 l0 a1).f4), .slice (some ad112) ((rd_T32 l0 a1).f5).length c110_5] 32 (0, 0)) (by (with_reducible repeat (first | refine blk_drewN ?_ _ | refine blk_drew ?_ | refine blk_alloc ?_ _)); refine blk_far ?_ NB111_113.out _; (with_reducible repeat (first | refine blk_drewN ?_ _ | refine blk_drew ?_ | refine blk_alloc ?_ _)); refine blk_far ?_ NB111_113.out _; (with_reducible repeat (first | refine blk_drewN ?_ _ | refine blk_drew ?_ | refine blk_alloc ?_ _)); refine blk_far ?_ NB111_113.out _; (with_reducible repeat (first | refine blk_drewN ?_ _ | refine blk_drew ?_ | refine blk_alloc ?_ _)); exact BK111.out)) : gb111 ≠ gb115)); have n7_ := Aside0.mk ((by rw [hg]; exact Nat.ne_of_gt (blk_lt (g := gb111) (o := .cells #[.int .i64 ((rd_T32 l0 a1).f0), .string ((rd_T32 l0 a1).f1), .int .i64 ((rd_T32 l0 a1).f2), .int .i64 ((rd_T32 l0 a1).f3), .int .i64 ((rd_T32 l0 a1).f4), .slice (some ad112) ((rd_T32 l0 a1).f5).length c110_5] 32 (0, 0)) (by (with_reducible repeat (first | refine blk_drewN ?_ _ | refine blk_drew ?_ | refine blk_alloc ?_ _)); refine blk_far ?_ NB111_113.out _; (with_reducible repeat (first | refine blk_drewN ?_ _ | refine blk_drew ?_ | refine blk_alloc ?_ _)); refine blk_far ?_ NB111_113.out _; (with_reducible repeat (first | refine blk_drewN ?_ _ | refine blk_drew ?_ | refine blk_alloc ?_ _)); refine blk_far ?_ NB111_113.out _; (with_reducible repeat (first | refine blk_drewN ?_ _ | refine blk_drew ?_ | refine blk_alloc ?_ _)); exact BK111.out)) : gb115 ≠ gb111)); have n8_ := Aside0.mk ((by rw [hg]; exact Nat.ne_of_lt (blk_lt (g := gb113) (o := .cells #[.string ((rd_T55 ((rd_T32 l0 a1).f5) a2).f0), .int .i64 ((rd_T55 ((rd_T32 l0 a1).f5) a2).f1), .int .i64 ((rd_T55 ((rd_T32 l0 a1).f5) a2).f2)] 55 (0, 0)) (by (with_reducible repeat (first | refine blk_drewN ?_ _ | refine blk_drew ?_ | refine blk_alloc ?_ _)); refine blk_put (cs := #[.string ((rd_T55 ((rd_T32 l0 a1).f5) a2).f0), .int .i64 ((rd_T55 ((rd_T32 l0 a1).f5) a2).f1), .int .i64 0]) ?_ 2 _ rfl; (with_reducible repeat (first | refine blk_drewN ?_ _ | refine blk_drew ?_ | refine blk_alloc ?_ _)); refine blk_put (cs := #[.string ((rd_T55 ((rd_T32 l0 a1).f5) a2).f0), .int .i64 0, .int .i64 0]) ?_ 1 _ rfl; (with_reducible repeat (first | refine blk_drewN ?_ _ | refine blk_drew ?_ | refine blk_alloc ?_ _)); refine blk_put (cs := #[.string (⟨#[]⟩ : ByteArray), .int .i64 0, .int .i64 0]) ?_ 0 _ rfl; (with_reducible repeat (first | refine blk_drewN ?_ _ | refine blk_drew ?_ | refine blk_alloc ?_ _)); exact BK113.out)) : gb113 ≠ gb115)); have n9_ := Aside0.mk ((by rw [hg]; exact Nat.ne_of_gt (blk_lt (g := gb113) (o := .cells #[.string ((rd_T55 ((rd_T32 l0 a1).f5) a2).f0), .int .i64 ((rd_T55 ((rd_T32 l0 a1).f5) a2).f1), .int .i64 ((rd_T55 ((rd_T32 l0 a1).f5) a2).f2)] 55 (0, 0)) (by (with_reducible repeat (first | refine blk_drewN ?_ _ | refine blk_drew ?_ | refine blk_alloc ?_ _)); refine blk_put (cs := #[.string ((rd_T55 ((rd_T32 l0 a1).f5) a2).f0), .int .i64 ((rd_T55 ((rd_T32 l0 a1).f5) a2).f1), .int .i64 0]) ?_ 2 _ rfl; (with_reducible repeat (first | refine blk_drewN ?_ _ | refine blk_drew ?_ | refine blk_alloc ?_ _)); refine blk_put (cs := #[.string ((rd_T55 ((rd_T32 l0 a1).f5) a2).f0), .int .i64 0, .int .i64 0]) ?_ 1 _ rfl; (with_reducible repeat (first | refine blk_drewN ?_ _ | refine blk_drew ?_ | refine blk_alloc ?_ _)); refine blk_put (cs := #[.string (⟨#[]⟩ : ByteArray), .int .i64 0, .int .i64 0]) ?_ 0 _ rfl; (with_reducible repeat (first | refine blk_drewN ?_ _ | refine blk_drew ?_ | refine blk_alloc ?_ _)); exact BK113.out)) : gb115 ≠ gb113)); clear BK111; clear BK113; clear HB; have BK111 := n0_; have BK113 := n1_; have HB := n2_; have BK115 := n3_; have GW115 := n4_; have GE115 := n5_; have NB111_115 := n6_; have NB115_111 := n7_; have NB113_115 := n8_; have NB115_113 := n9_; clear n0_ n1_ n2_ n3_ n4_ n5_ n6_ n7_ n8_ n9_; clear hb hbox hg; have hnb23 := NB115_111.out; have hnc23 := NB111_115.out; have hnb24 := NB115_113.out; have hnc24 := NB113_115.out; obtain ⟨hcz25_0, hcz25_1, hcz25_2, hfz25_0, hfz25_1, hfz25_2⟩ := cells3 BK115.out; have p116 : 0 ≤ (((rd_T55 ((rd_T32 l0 a1).f5) (ji15)).f1) : Int) := of_decide_eq_true (by first | (with_reducible assumption) | assumption); have q116 : ((rd_T55 ((rd_T32 l0 a1).f5) (ji15)).f1) < (l0.length : Int) := of_decide_eq_true (by first | (with_reducible assumption) | assumption); obtain ⟨ad116, A116_5, c116_5, e116, hx116_0, hx116_1, hx116_2, hx116_3, hx116_4, hx116_5, hl116_5, hi116_5⟩ := at_T32 HR0.out ((rd_T55 ((rd_T32 l0 a1).f5) (ji15)).f1) p116 q116; obtain rfl : ad110 = ad116 := (by injection e116); have hn116_0 : ad110.block ≠ gb115 := Nat.ne_of_lt (Nat.lt_of_lt_of_le (by have := World.block_lt_of_cell? _ _ hx116_0; first | rwa [add_block] at this | exact this) GW115.out); have hn116_1 : ad110.block ≠ gb115 := Nat.ne_of_lt (Nat.lt_of_lt_of_le (by have := World.block_lt_of_cell? _ _ hx116_0; first | rwa [add_block] at this | exact this) GW115.out); have hn116_2 : ad110.block ≠ gb115 := Nat.ne_of_lt (Nat.lt_of_lt_of_le (by have := World.block_lt_of_cell? _ _ hx116_0; first | rwa [add_block] at this | exact this) GW115.out); replace hx116_0 := (HB.out.cell (World.block_lt_of_cell? w _ hx116_0)).trans hx116_0; replace hx116_1 := (HB.out.cell (World.block_lt_of_cell? w _ hx116_1)).trans hx116_1; replace hx116_2 := (HB.out.cell (World.block_lt_of_cell? w _ hx116_2)).trans hx116_2; replace hx116_3 := (HB.out.cell (World.block_lt_of_cell? w _ hx116_3)).trans hx116_3; replace hx116_4 := (HB.out.cell (World.block_lt_of_cell? w _ hx116_4)).trans hx116_4; replace hx116_5 := (HB.out.cell (World.block_lt_of_cell? w _ hx116_5)).trans hx116_5; have HR116_5 := Aside0.mk hi116_5; have HC116_5 := Aside0.mk hl116_5; clear hi116_5 hl116_5; replace hx116_0 := (cell_far (p := ⟨gb115, 0, none⟩) (by first | (rw [add_block]; exact hn116_0) | (show (Addr.add _ _).block ≠ _; rw [add_block]; exact hn116_0) | exact hn116_0) (.string ((rd_T55 ((rd_T32 l0 a1).f5) (ji15)).f0))).trans hx116_0; replace hx116_1 := (cell_far (p := ⟨gb115, 0, none⟩) (by first | (rw [add_block]; exact hn116_0) | (show (Addr.add _ _).block ≠ _; rw [add_block]; exact hn116_0) | exact hn116_0) (.string ((rd_T55 ((rd_T32 l0 a1).f5) (ji15)).f0))).trans hx116_1; replace hx116_2 := (cell_far (p := ⟨gb115, 0, none⟩) (by first | (rw [add_block]; exact hn116_0) | (show (Addr.add _ _).block ≠ _; rw [add_block]; exact hn116_0) | exact hn116_0) (.string ((rd_T55 ((rd_T32 l0 a1).f5) (ji15)).f0))).trans hx116_2; replace hx116_3 := (cell_far (p := ⟨gb115, 0, none⟩) (by first | (rw [add_block]; exact hn116_0) | (show (Addr.add _ _).block ≠ _; rw [add_block]; exact hn116_0) | exact hn116_0) (.string ((rd_T55 ((rd_T32 l0 a1).f5) (ji15)).f0))).trans hx116_3; replace hx116_4 := (cell_far (p := ⟨gb115, 0, none⟩) (by first | (rw [add_block]; exact hn116_0) | (show (Addr.add _ _).block ≠ _; rw [add_block]; exact hn116_0) | exact hn116_0) (.string ((rd_T55 ((rd_T32 l0 a1).f5) (ji15)).f0))).trans hx116_4; replace hx116_5 := (cell_far (p := ⟨gb115, 0, none⟩) (by first | (rw [add_block]; exact hn116_0) | (show (Addr.add _ _).block ≠ _; rw [add_block]; exact hn116_0) | exact hn116_0) (.string ((rd_T55 ((rd_T32 l0 a1).f5) (ji15)).f0))).trans hx116_5; replace hx116_0 := (cell_far (p := ⟨gb115, 1, none⟩) (by first | (rw [add_block]; exact hn116_1) | (show (Addr.add _ _).block ≠ _; rw [add_block]; exact hn116_1) | exact hn116_1) (.int .i64 ((rd_T55 ((rd_T32 l0 a1).f5) (ji15)).f1))).trans hx116_0; replace hx116_1 := (cell_far (p := ⟨gb115, 1, none⟩) (by first | (rw [add_block]; exact hn116_1) | (show (Addr.add _ _).block ≠ _; rw [add_block]; exact hn116_1) | exact hn116_1) (.int .i64 ((rd_T55 ((rd_T32 l0 a1).f5) (ji15)).f1))).trans hx116_1; replace hx116_2 := (cell_far (p := ⟨gb115, 1, none⟩) (by first | (rw [add_block]; exact hn116_1) | (show (Addr.add _ _).block ≠ _; rw [add_block]; exact hn116_1) | exact hn116_1) (.int .i64 ((rd_T55 ((rd_T32 l0 a1).f5) (ji15)).f1))).trans hx116_2; replace hx116_3 := (cell_far (p := ⟨gb115, 1, none⟩) (by first | (rw [add_block]; exact hn116_1) | (show (Addr.add _ _).block ≠ _; rw [add_block]; exact hn116_1) | exact hn116_1) (.int .i64 ((rd_T55 ((rd_T32 l0 a1).f5) (ji15)).f1))).trans hx116_3; replace hx116_4 := (cell_far (p := ⟨gb115, 1, none⟩) (by first | (rw [add_block]; exact hn116_1) | (show (Addr.add _ _).block ≠ _; rw [add_block]; exact hn116_1) | exact hn116_1) (.int .i64 ((rd_T55 ((rd_T32 l0 a1).f5) (ji15)).f1))).trans hx116_4; replace hx116_5 := (cell_far (p := ⟨gb115, 1, none⟩) (by first | (rw [add_block]; exact hn116_1) | (show (Addr.add _ _).block ≠ _; rw [add_block]; exact hn116_1) | exact hn116_1) (.int .i64 ((rd_T55 ((rd_T32 l0 a1).f5) (ji15)).f1))).trans hx116_5; replace hx116_0 := (cell_far (p := ⟨gb115, 2, none⟩) (by first | (rw [add_block]; exact hn116_2) | (show (Addr.add _ _).block ≠ _; rw [add_block]; exact hn116_2) | exact hn116_2) (.int .i64 ((rd_T55 ((rd_T32 l0 a1).f5) (ji15)).f2))).trans hx116_0; replace hx116_1 := (cell_far (p := ⟨gb115, 2, none⟩) (by first | (rw [add_block]; exact hn116_2) | (show (Addr.add _ _).block ≠ _; rw [add_block]; exact hn116_2) | exact hn116_2) (.int .i64 ((rd_T55 ((rd_T32 l0 a1).f5) (ji15)).f2))).trans hx116_1; replace hx116_2 := (cell_far (p := ⟨gb115, 2, none⟩) (by first | (rw [add_block]; exact hn116_2) | (show (Addr.add _ _).block ≠ _; rw [add_block]; exact hn116_2) | exact hn116_2) (.int .i64 ((rd_T55 ((rd_T32 l0 a1).f5) (ji15)).f2))).trans hx116_2; replace hx116_3 := (cell_far (p := ⟨gb115, 2, none⟩) (by first | (rw [add_block]; exact hn116_2) | (show (Addr.add _ _).block ≠ _; rw [add_block]; exact hn116_2) | exact hn116_2) (.int .i64 ((rd_T55 ((rd_T32 l0 a1).f5) (ji15)).f2))).trans hx116_3; replace hx116_4 := (cell_far (p := ⟨gb115, 2, none⟩) (by first | (rw [add_block]; exact hn116_2) | (show (Addr.add _ _).block ≠ _; rw [add_block]; exact hn116_2) | exact hn116_2) (.int .i64 ((rd_T55 ((rd_T32 l0 a1).f5) (ji15)).f2))).trans hx116_4; replace hx116_5 := (cell_far (p := ⟨gb115, 2, none⟩) (by first | (rw [add_block]; exact hn116_2) | (show (Addr.add _ _).block ≠ _; rw [add_block]; exact hn116_2) | exact hn116_2) (.int .i64 ((rd_T55 ((rd_T32 l0 a1).f5) (ji15)).f2))).trans hx116_5; clear hn116_0; clear hn116_1; clear hn116_2; replace p116 := eq_true p116; replace q116 := eq_true q116))
    repeat (go_quiet (fail); try go_wp2)
    go_meet
    case rel => exact ⟨_, (wrap64 (((rd_T55 ((rd_T32 l0 a1).f5) (ji15)).f2) + ((rd_T32 l0 ((rd_T55 ((rd_T32 l0 a1).f5) (ji15)).f1)).f2))), (by first | rfl | (simp; done) | (simp only [← hji15] <;> (first | rfl | simp)) | (simp [*]; done)), H', ⟨by first | omega | exact Nat.le_refl _⟩, ⟨by (with_reducible repeat (first | refine blk_drewN ?_ _ | refine blk_drew ?_ | refine blk_alloc ?_ _)); refine blk_far ?_ NB111_115.out _; (with_reducible repeat (first | refine blk_drewN ?_ _ | refine blk_drew ?_ | refine blk_alloc ?_ _)); refine blk_far ?_ NB111_115.out _; (with_reducible repeat (first | refine blk_drewN ?_ _ | refine blk_drew ?_ | refine blk_alloc ?_ _)); refine blk_far ?_ NB111_115.out _; (with_reducible repeat (first | refine blk_drewN ?_ _ | refine blk_drew ?_ | refine blk_alloc ?_ _)); exact BK111.out⟩, ⟨by (with_reducible repeat (first | refine blk_drewN ?_ _ | refine blk_drew ?_ | refine blk_alloc ?_ _)); refine blk_far ?_ NB113_115.out _; (with_reducible repeat (first | refine blk_drewN ?_ _ | refine blk_drew ?_ | refine blk_alloc ?_ _)); refine blk_far ?_ NB113_115.out _; (with_reducible repeat (first | refine blk_drewN ?_ _ | refine blk_drew ?_ | refine blk_alloc ?_ _)); refine blk_far ?_ NB113_115.out _; (with_reducible repeat (first | refine blk_drewN ?_ _ | refine blk_drew ?_ | refine blk_alloc ?_ _)); exact BK113.out⟩, ⟨by repeat (first | (with_reducible first | exact HB.out | apply below_alloc | apply pw_below_drewN | apply below_drew1 | refine below_set ?_ GE111.out | refine below_set ?_ GE113.out | refine below_set ?_ GE115.out) | exact HB.out)⟩⟩
  ·rw [if_neg c14] at H
   have c14b0 : decide (0 < a2) = false := decide_eq_false c14
   clear c14
   (first | rw [c14b0] | (simp only [i64_w, i32_w]; rw [c14b0]) | skip)
   as_aux_lemma =>
    have H' := Aside0.mk H
    clear H
    go_wp2
    repeat (go_quiet (fail); try go_wp2)
    go_meet
    case rel => exact ⟨_, (0), (by first | rfl | (simp; done) | (simp [*]; done)), H', ⟨by first | omega | exact Nat.le_refl _⟩, ⟨by (with_reducible repeat (first | refine blk_drewN ?_ _ | refine blk_drew ?_ | refine blk_alloc ?_ _)); refine blk_far ?_ NB111_113.out _; (with_reducible repeat (first | refine blk_drewN ?_ _ | refine blk_drew ?_ | refine blk_alloc ?_ _)); refine blk_far ?_ NB111_113.out _; (with_reducible repeat (first | refine blk_drewN ?_ _ | refine blk_drew ?_ | refine blk_alloc ?_ _)); refine blk_far ?_ NB111_113.out _; (with_reducible repeat (first | refine blk_drewN ?_ _ | refine blk_drew ?_ | refine blk_alloc ?_ _)); exact BK111.out⟩, ⟨by (with_reducible repeat (first | refine blk_drewN ?_ _ | refine blk_drew ?_ | refine blk_alloc ?_ _)); refine blk_put (cs := #[.string ((rd_T55 ((rd_T32 l0 a1).f5) a2).f0), .int .i64 ((rd_T55 ((rd_T32 l0 a1).f5) a2).f1), .int .i64 0]) ?_ 2 _ rfl; (with_reducible repeat (first | refine blk_drewN ?_ _ | refine blk_drew ?_ | refine blk_alloc ?_ _)); refine blk_put (cs := #[.string ((rd_T55 ((rd_T32 l0 a1).f5) a2).f0), .int .i64 0, .int .i64 0]) ?_ 1 _ rfl; (with_reducible repeat (first | refine blk_drewN ?_ _ | refine blk_drew ?_ | refine blk_alloc ?_ _)); refine blk_put (cs := #[.string (⟨#[]⟩ : ByteArray), .int .i64 0, .int .i64 0]) ?_ 0 _ rfl; (with_reducible repeat (first | refine blk_drewN ?_ _ | refine blk_drew ?_ | refine blk_alloc ?_ _)); exact BK113.out⟩, ⟨by repeat (first | (with_reducible first | exact HB.out | apply below_alloc | apply pw_below_drewN | apply below_drew1 | refine below_set ?_ GE111.out | refine below_set ?_ GE113.out) | exact HB.out)⟩⟩
 case rest =>
  clear HC8
  try clear c4; try clear c4b0; try clear c5; try clear c5b0; try clear c6; try clear c6b0; try clear c7; try clear c7b0; try clear hcz10_0; try clear hcz10_1; try clear hcz10_2; try clear hcz10_3; try clear hcz10_4; try clear hcz10_5; try clear hcz13_0; try clear hcz13_1; try clear hcz13_2; try clear hfz10_0; try clear hfz10_1; try clear hfz10_2; try clear hfz10_3; try clear hfz10_4; try clear hfz10_5; try clear hfz13_0; try clear hfz13_1; try clear hfz13_2; try clear hx110_0; try clear hx110_1; try clear hx110_2; try clear hx110_3; try clear hx110_4; try clear hx110_5; try clear hx112_0; try clear hx112_1; try clear hx112_2; try clear p110; try clear p112; try clear q110; try clear q112
  obtain ⟨kq, x9_7, rfl, HA, HJ7, BK111, BK113, HB⟩ := hcut
  cases kq with
  | zero => exact absurd HA.out (by simp [records_field.j0])
  | succ kj7 =>
   have H := HA.out
   clear HA
   simp only [records_field.j0] at H
   replace H := Option.bind_eq_some_iff.mp H
   obtain ⟨t117, A260, H⟩ := H
   replace H : (if t117 = true then (if 0 ≤ a2 then (if a2 ≤ (((rd_T32 l0 a1).f5).length : Int) then ((api_Field_42.f kj7 (((rd_T32 l0 a1).f5).take (a2 : Int).toNat) ((rd_T55 ((rd_T32 l0 a1).f5) a2).f0)).bind fun t122 => (if t122 = true then (some 7) else (if ((rd_T55 ((rd_T32 l0 a1).f5) a2).f1) < 0 then (records_field.j1 kj7 l0 x9_7 true ((rd_T32 l0 a1).f0) ((rd_T32 l0 a1).f1) ((rd_T32 l0 a1).f2) ((rd_T32 l0 a1).f3) ((rd_T32 l0 a1).f4) ((rd_T32 l0 a1).f5) ((rd_T55 ((rd_T32 l0 a1).f5) a2).f0) ((rd_T55 ((rd_T32 l0 a1).f5) a2).f1) ((rd_T55 ((rd_T32 l0 a1).f5) a2).f2)) else (records_field.j1 kj7 l0 x9_7 (decide (((rd_T55 ((rd_T32 l0 a1).f5) a2).f1) ≥ a1)) ((rd_T32 l0 a1).f0) ((rd_T32 l0 a1).f1) ((rd_T32 l0 a1).f2) ((rd_T32 l0 a1).f3) ((rd_T32 l0 a1).f4) ((rd_T32 l0 a1).f5) ((rd_T55 ((rd_T32 l0 a1).f5) a2).f0) ((rd_T55 ((rd_T32 l0 a1).f5) a2).f1) ((rd_T55 ((rd_T32 l0 a1).f5) a2).f2))))) else (none)) else (none)) else (some 12)) = some r := H
   have A26 := Aside0.mk A260
   clear A260
   by_cases c27 : t117 = true
   ·subst c27
    have H1 : (if 0 ≤ a2 then (if a2 ≤ (((rd_T32 l0 a1).f5).length : Int) then ((api_Field_42.f kj7 (((rd_T32 l0 a1).f5).take (a2 : Int).toNat) ((rd_T55 ((rd_T32 l0 a1).f5) a2).f0)).bind fun t122 => (if t122 = true then (some 7) else (if ((rd_T55 ((rd_T32 l0 a1).f5) a2).f1) < 0 then (records_field.j1 kj7 l0 x9_7 true ((rd_T32 l0 a1).f0) ((rd_T32 l0 a1).f1) ((rd_T32 l0 a1).f2) ((rd_T32 l0 a1).f3) ((rd_T32 l0 a1).f4) ((rd_T32 l0 a1).f5) ((rd_T55 ((rd_T32 l0 a1).f5) a2).f0) ((rd_T55 ((rd_T32 l0 a1).f5) a2).f1) ((rd_T55 ((rd_T32 l0 a1).f5) a2).f2)) else (records_field.j1 kj7 l0 x9_7 (decide (((rd_T55 ((rd_T32 l0 a1).f5) a2).f1) ≥ a1)) ((rd_T32 l0 a1).f0) ((rd_T32 l0 a1).f1) ((rd_T32 l0 a1).f2) ((rd_T32 l0 a1).f3) ((rd_T32 l0 a1).f4) ((rd_T32 l0 a1).f5) ((rd_T55 ((rd_T32 l0 a1).f5) a2).f0) ((rd_T55 ((rd_T32 l0 a1).f5) a2).f1) ((rd_T55 ((rd_T32 l0 a1).f5) a2).f2))))) else (none)) else (none)) = some r := by rw [if_pos rfl] at H; exact H
    replace H := H1; clear H1
    by_cases c28 : 0 ≤ a2
    case neg => rw [if_neg c28] at H; exact absurd H (by simp)
    rw [if_pos c28] at H
    have c28b0 := eq_true c28
    have c28b1 : decide (0 ≤ a2) = true := decide_eq_true c28
    clear c28
    by_cases c29 : a2 ≤ (((rd_T32 l0 a1).f5).length : Int)
    case neg => rw [if_neg c29] at H; exact absurd H (by simp)
    rw [if_pos c29] at H
    have c29b0 := eq_true c29
    have c29b1 : decide (a2 ≤ (((rd_T32 l0 a1).f5).length : Int)) = true := decide_eq_true c29
    clear c29
    obtain ⟨y118, hy118⟩ : ∃ y_ : List (S55), y_ = (((rd_T32 l0 a1).f5).take (a2 : Int).toNat) := ⟨_, rfl⟩
    replace H : ((api_Field_42.f kj7 y118 ((rd_T55 ((rd_T32 l0 a1).f5) a2).f0)).bind fun t122 => (if t122 = true then (some 7) else (if ((rd_T55 ((rd_T32 l0 a1).f5) a2).f1) < 0 then (records_field.j1 kj7 l0 x9_7 true ((rd_T32 l0 a1).f0) ((rd_T32 l0 a1).f1) ((rd_T32 l0 a1).f2) ((rd_T32 l0 a1).f3) ((rd_T32 l0 a1).f4) ((rd_T32 l0 a1).f5) ((rd_T55 ((rd_T32 l0 a1).f5) a2).f0) ((rd_T55 ((rd_T32 l0 a1).f5) a2).f1) ((rd_T55 ((rd_T32 l0 a1).f5) a2).f2)) else (records_field.j1 kj7 l0 x9_7 (decide (((rd_T55 ((rd_T32 l0 a1).f5) a2).f1) ≥ a1)) ((rd_T32 l0 a1).f0) ((rd_T32 l0 a1).f1) ((rd_T32 l0 a1).f2) ((rd_T32 l0 a1).f3) ((rd_T32 l0 a1).f4) ((rd_T32 l0 a1).f5) ((rd_T55 ((rd_T32 l0 a1).f5) a2).f0) ((rd_T55 ((rd_T32 l0 a1).f5) a2).f1) ((rd_T55 ((rd_T32 l0 a1).f5) a2).f2))))) = some r := by first | (rw [hy118]; with_reducible exact H) | (have H2_ := (Option.bind_some _ _).symm.trans H; rw [hy118]; with_reducible exact H2_) | (have H2_ := (Option.bind_some _ _).symm.trans H; with_reducible exact H2_) | with_reducible exact H | (rw [hy118]; exact H) | exact H
    have Ny118 := Aside0.mk hy118
    clear hy118
    replace H := Option.bind_eq_some_iff.mp H
    obtain ⟨t122, A300, H⟩ := H
    replace H : (if t122 = true then (some 7) else (if ((rd_T55 ((rd_T32 l0 a1).f5) a2).f1) < 0 then (records_field.j1 kj7 l0 x9_7 true ((rd_T32 l0 a1).f0) ((rd_T32 l0 a1).f1) ((rd_T32 l0 a1).f2) ((rd_T32 l0 a1).f3) ((rd_T32 l0 a1).f4) ((rd_T32 l0 a1).f5) ((rd_T55 ((rd_T32 l0 a1).f5) a2).f0) ((rd_T55 ((rd_T32 l0 a1).f5) a2).f1) ((rd_T55 ((rd_T32 l0 a1).f5) a2).f2)) else (records_field.j1 kj7 l0 x9_7 (decide (((rd_T55 ((rd_T32 l0 a1).f5) a2).f1) ≥ a1)) ((rd_T32 l0 a1).f0) ((rd_T32 l0 a1).f1) ((rd_T32 l0 a1).f2) ((rd_T32 l0 a1).f3) ((rd_T32 l0 a1).f4) ((rd_T32 l0 a1).f5) ((rd_T55 ((rd_T32 l0 a1).f5) a2).f0) ((rd_T55 ((rd_T32 l0 a1).f5) a2).f1) ((rd_T55 ((rd_T32 l0 a1).f5) a2).f2)))) = some r := H
    have A30 := Aside0.mk A300
    clear A300
    by_cases c31 : t122 = true
    ·subst c31
     have H1 : (some 7) = some r := by rw [if_pos rfl] at H; exact H
     replace H := H1; clear H1
     as_aux_lemma =>
      obtain rfl := Option.some.inj H
      have hnb32 := NB113_111.out
      have hnc32 := NB111_113.out
      obtain ⟨hcz33_0, hcz33_1, hcz33_2, hfz33_0, hfz33_1, hfz33_2⟩ := cells3 BK113.out
      go_wp2_with (first | (go_at_call 33; (with_reducible refine (token_IsName.calls kj7 ((rd_T55 ((rd_T32 l0 a1).f5) a2).f0) true _ A26.out).mono ?_); rintro e w' ⟨rfl, ⟨nd, rfl⟩⟩; (try first | exact ⟨rfl, _, World.drewN_drewN _ _ _⟩ | exact ⟨rfl, _, Eq.trans (World.drewN_drewN _ _ _) (congrArg (World.drewN _) (Nat.add_assoc _ _ _))⟩); obtain ⟨hcz34_0, hcz34_1, hcz34_2, hcz34_3, hcz34_4, hcz34_5, hfz34_0, hfz34_1, hfz34_2, hfz34_3, hfz34_4, hfz34_5⟩ := cells6 BK111.out; have q35 : (a2 : Int) ≤ ((((rd_T32 l0 a1).f5).length : Int) : Int) := of_decide_eq_true (by first | (with_reducible assumption) | assumption); obtain ⟨i035, hi035, _, hsz35, _⟩ := info_parts info55; have hroom35 : ((rd_T32 l0 a1).f5).length ≤ c110_5 := HC110_5.out; have hC35 : Kd.C k55 _ (some ad112) ((rd_T32 l0 a1).f5).length ((rd_T32 l0 a1).f5) := HR110_5.out; have hcut35 := cut_to (P := Try.prog) 30 55 .i64 Try.underlying30 hi035 (some ad112) ((rd_T32 l0 a1).f5).length c110_5 a2 (of_decide_eq_true (by first | (with_reducible assumption) | assumption)) q35 hroom35; have hr35 := Kd.C_take (m := (a2 : Int).toNat) hC35 (by omega); have hy35 : y118.length = (a2 : Int).toNat := (by rw [Ny118.out, List.length_take]; omega); rw [← Ny118.out] at hr35; rw [← hy35] at hcut35; have HR121 := Aside0.mk hr35; have HC121 := Aside0.mk (show y118.length ≤ c110_5 from by omega); clear hr35 hC35 hroom35 hi035 hsz35; have KY35 := Aside0.mk hy35; clear hy35; replace q35 := eq_true q35) | (go_at_call 42; (with_reducible refine (api_Field_42.calls kj7 _ _ y118 ((rd_T55 ((rd_T32 l0 a1).f5) a2).f0) gb113 _ _ true _ ?side1 ?side2 (by (with_reducible repeat (first | refine blk_drewN ?_ _ | refine blk_drew ?_ | refine blk_alloc ?_ _)); exact BK113.out) A30.out).mono ?_); (case side1 => repeat (first | exact (Kd.C_below HR121.out (by repeat (first | (with_reducible first | exact HB.out | apply below_alloc | apply pw_below_drewN | apply below_drew1 | refine below_set ?_ GE111.out | refine below_set ?_ GE113.out) | exact HB.out))) | (with_reducible refine Kd.C_alloc ?_ _) | (with_reducible refine Kd.C_drewN ?_ _) | (with_reducible refine Kd.C_drew ?_))); (case side2 => exact HC121.out); rintro e w36 ⟨rfl, hb⟩; have n0_ := Aside0.mk (blk_below (g := gb111) (o := .cells #[.int .i64 ((rd_T32 l0 a1).f0), .string ((rd_T32 l0 a1).f1), .int .i64 ((rd_T32 l0 a1).f2), .int .i64 ((rd_T32 l0 a1).f3), .int .i64 ((rd_T32 l0 a1).f4), .slice (some ad112) ((rd_T32 l0 a1).f5).length c110_5] 32 (0, 0)) (by (with_reducible repeat (first | refine blk_drewN ?_ _ | refine blk_drew ?_ | refine blk_alloc ?_ _)); exact BK111.out) hb); have n1_ := Aside0.mk (blk_below (g := gb113) (o := .cells #[.string ((rd_T55 ((rd_T32 l0 a1).f5) a2).f0), .int .i64 ((rd_T55 ((rd_T32 l0 a1).f5) a2).f1), .int .i64 ((rd_T55 ((rd_T32 l0 a1).f5) a2).f2)] 55 (0, 0)) (by (with_reducible repeat (first | refine blk_drewN ?_ _ | refine blk_drew ?_ | refine blk_alloc ?_ _)); exact BK113.out) hb); have n2_ := Aside0.mk (below_step (by repeat (first | (with_reducible first | exact HB.out | apply below_alloc | apply pw_below_drewN | apply below_drew1 | refine below_set ?_ GE111.out | refine below_set ?_ GE113.out) | exact HB.out)) hb); clear BK111; clear BK113; clear HB; have BK111 := n0_; have BK113 := n1_; have HB := n2_; clear n0_ n1_ n2_; (try clear hb); (try clear hb2); (try clear hk); (try clear hi)))
      repeat (go_quiet (fail); try go_wp2)
      go_ret
      exact ⟨by first | rfl | (simp [errW_none, errW_some] <;> rfl) | (simp [*, errW_none, errW_some] <;> rfl), by repeat (first | (with_reducible first | exact HB.out | apply below_alloc | apply pw_below_drewN | apply below_drew1 | refine below_set ?_ GE111.out | refine below_set ?_ GE113.out) | exact HB.out)⟩
    ·replace c31 := Bool.eq_false_iff.mpr c31
     subst c31
     have H1 : (if ((rd_T55 ((rd_T32 l0 a1).f5) a2).f1) < 0 then (records_field.j1 kj7 l0 x9_7 true ((rd_T32 l0 a1).f0) ((rd_T32 l0 a1).f1) ((rd_T32 l0 a1).f2) ((rd_T32 l0 a1).f3) ((rd_T32 l0 a1).f4) ((rd_T32 l0 a1).f5) ((rd_T55 ((rd_T32 l0 a1).f5) a2).f0) ((rd_T55 ((rd_T32 l0 a1).f5) a2).f1) ((rd_T55 ((rd_T32 l0 a1).f5) a2).f2)) else (records_field.j1 kj7 l0 x9_7 (decide (((rd_T55 ((rd_T32 l0 a1).f5) a2).f1) ≥ a1)) ((rd_T32 l0 a1).f0) ((rd_T32 l0 a1).f1) ((rd_T32 l0 a1).f2) ((rd_T32 l0 a1).f3) ((rd_T32 l0 a1).f4) ((rd_T32 l0 a1).f5) ((rd_T55 ((rd_T32 l0 a1).f5) a2).f0) ((rd_T55 ((rd_T32 l0 a1).f5) a2).f1) ((rd_T55 ((rd_T32 l0 a1).f5) a2).f2))) = some r := by rw [if_neg (show ¬ (false = true) by decide)] at H; exact H
     replace H := H1; clear H1
     have HC37 := Aside0.mk H
     clear H
     have hnb38 := NB113_111.out
     have hnc38 := NB111_113.out
     obtain ⟨hcz39_0, hcz39_1, hcz39_2, hfz39_0, hfz39_1, hfz39_2⟩ := cells3 BK113.out
     go_upto_region 11 with (first | (go_at_call 33; (with_reducible refine (token_IsName.calls kj7 ((rd_T55 ((rd_T32 l0 a1).f5) a2).f0) true _ A26.out).mono ?_); rintro e w' ⟨rfl, ⟨nd, rfl⟩⟩; (try first | exact ⟨rfl, _, World.drewN_drewN _ _ _⟩ | exact ⟨rfl, _, Eq.trans (World.drewN_drewN _ _ _) (congrArg (World.drewN _) (Nat.add_assoc _ _ _))⟩); obtain ⟨hcz40_0, hcz40_1, hcz40_2, hcz40_3, hcz40_4, hcz40_5, hfz40_0, hfz40_1, hfz40_2, hfz40_3, hfz40_4, hfz40_5⟩ := cells6 BK111.out; have q41 : (a2 : Int) ≤ ((((rd_T32 l0 a1).f5).length : Int) : Int) := of_decide_eq_true (by first | (with_reducible assumption) | assumption); obtain ⟨i041, hi041, _, hsz41, _⟩ := info_parts info55; have hroom41 : ((rd_T32 l0 a1).f5).length ≤ c110_5 := HC110_5.out; have hC41 : Kd.C k55 _ (some ad112) ((rd_T32 l0 a1).f5).length ((rd_T32 l0 a1).f5) := HR110_5.out; have hcut41 := cut_to (P := Try.prog) 30 55 .i64 Try.underlying30 hi041 (some ad112) ((rd_T32 l0 a1).f5).length c110_5 a2 (of_decide_eq_true (by first | (with_reducible assumption) | assumption)) q41 hroom41; have hr41 := Kd.C_take (m := (a2 : Int).toNat) hC41 (by omega); have hy41 : y118.length = (a2 : Int).toNat := (by rw [Ny118.out, List.length_take]; omega); rw [← Ny118.out] at hr41; rw [← hy41] at hcut41; have HR121 := Aside0.mk hr41; have HC121 := Aside0.mk (show y118.length ≤ c110_5 from by omega); clear hr41 hC41 hroom41 hi041 hsz41; have KY41 := Aside0.mk hy41; clear hy41; replace q41 := eq_true q41) | (go_at_call 42; (with_reducible refine (api_Field_42.calls kj7 _ _ y118 ((rd_T55 ((rd_T32 l0 a1).f5) a2).f0) gb113 _ _ false _ ?side1 ?side2 (by (with_reducible repeat (first | refine blk_drewN ?_ _ | refine blk_drew ?_ | refine blk_alloc ?_ _)); exact BK113.out) A30.out).mono ?_); (case side1 => repeat (first | exact (Kd.C_below HR121.out (by repeat (first | (with_reducible first | exact HB.out | apply below_alloc | apply pw_below_drewN | apply below_drew1 | refine below_set ?_ GE111.out | refine below_set ?_ GE113.out) | exact HB.out))) | (with_reducible refine Kd.C_alloc ?_ _) | (with_reducible refine Kd.C_drewN ?_ _) | (with_reducible refine Kd.C_drew ?_))); (case side2 => exact HC121.out); rintro e w42 ⟨rfl, hb⟩; have n0_ := Aside0.mk (blk_below (g := gb111) (o := .cells #[.int .i64 ((rd_T32 l0 a1).f0), .string ((rd_T32 l0 a1).f1), .int .i64 ((rd_T32 l0 a1).f2), .int .i64 ((rd_T32 l0 a1).f3), .int .i64 ((rd_T32 l0 a1).f4), .slice (some ad112) ((rd_T32 l0 a1).f5).length c110_5] 32 (0, 0)) (by (with_reducible repeat (first | refine blk_drewN ?_ _ | refine blk_drew ?_ | refine blk_alloc ?_ _)); exact BK111.out) hb); have n1_ := Aside0.mk (blk_below (g := gb113) (o := .cells #[.string ((rd_T55 ((rd_T32 l0 a1).f5) a2).f0), .int .i64 ((rd_T55 ((rd_T32 l0 a1).f5) a2).f1), .int .i64 ((rd_T55 ((rd_T32 l0 a1).f5) a2).f2)] 55 (0, 0)) (by (with_reducible repeat (first | refine blk_drewN ?_ _ | refine blk_drew ?_ | refine blk_alloc ?_ _)); exact BK113.out) hb); have n2_ := Aside0.mk (below_step (by repeat (first | (with_reducible first | exact HB.out | apply below_alloc | apply pw_below_drewN | apply below_drew1 | refine below_set ?_ GE111.out | refine below_set ?_ GE113.out) | exact HB.out)) hb); clear BK111; clear BK113; clear HB; have BK111 := n0_; have BK113 := n1_; have HB := n2_; clear n0_ n1_ n2_; (try clear hb); (try clear hb2); (try clear hk); (try clear hi)))
     repeat (go_quiet (fail); go_upto_region 11 with (fail))
     (try simp only [Act.put, List.setIfInBounds_toArray, List.set_cons_zero, List.set_cons_succ])
     go_cut [49] (fun v49 wc => ∃ (kq : Nat) (x49_36 : Bool), v49 = .bool x49_36 ∧ Aside0 (records_field.j1 kq l0 x9_7 x49_36 ((rd_T32 l0 a1).f0) ((rd_T32 l0 a1).f1) ((rd_T32 l0 a1).f2) ((rd_T32 l0 a1).f3) ((rd_T32 l0 a1).f4) ((rd_T32 l0 a1).f5) ((rd_T55 ((rd_T32 l0 a1).f5) a2).f0) ((rd_T55 ((rd_T32 l0 a1).f5) a2).f1) ((rd_T55 ((rd_T32 l0 a1).f5) a2).f2) = some r) ∧ Aside0 (kq ≤ kj7) ∧ Aside0 (wc.heap[gb111]? = some (.cells #[.int .i64 ((rd_T32 l0 a1).f0), .string ((rd_T32 l0 a1).f1), .int .i64 ((rd_T32 l0 a1).f2), .int .i64 ((rd_T32 l0 a1).f3), .int .i64 ((rd_T32 l0 a1).f4), (.slice (some ad112) ((rd_T32 l0 a1).f5).length c110_5)] 32 (0, 0))) ∧ Aside0 (wc.heap[gb113]? = some (.cells #[.string ((rd_T55 ((rd_T32 l0 a1).f5) a2).f0), .int .i64 ((rd_T55 ((rd_T32 l0 a1).f5) a2).f1), .int .i64 ((rd_T55 ((rd_T32 l0 a1).f5) a2).f2)] 55 (0, 0))) ∧ Aside0 (Below w.heap.size w wc))
     case first =>
      have H := HC37.out
      clear HC37
      by_cases c43 : ((rd_T55 ((rd_T32 l0 a1).f5) a2).f1) < 0
      ·rw [if_pos c43] at H
       have c43b0 : decide (((rd_T55 ((rd_T32 l0 a1).f5) a2).f1) < 0) = true := decide_eq_true c43
       clear c43
       (first | rw [c43b0] | (simp only [i64_w, i32_w]; rw [c43b0]) | skip)
       as_aux_lemma =>
        have H' := Aside0.mk H
        clear H
        have hnb44 := NB113_111.out
        have hnc44 := NB111_113.out
        obtain ⟨hcz45_0, hcz45_1, hcz45_2, hfz45_0, hfz45_1, hfz45_2⟩ := cells3 BK113.out
        go_wp2
        repeat (go_quiet (fail); try go_wp2)
        go_meet
        case rel => exact ⟨_, (true), (by first | rfl | (simp; done) | (simp [*]; done)), H', ⟨by have := HJ7.out; first | omega | exact Nat.le_refl _⟩, ⟨by (with_reducible repeat (first | refine blk_drewN ?_ _ | refine blk_drew ?_ | refine blk_alloc ?_ _)); exact BK111.out⟩, ⟨by (with_reducible repeat (first | refine blk_drewN ?_ _ | refine blk_drew ?_ | refine blk_alloc ?_ _)); exact BK113.out⟩, ⟨by repeat (first | (with_reducible first | exact HB.out | apply below_alloc | apply pw_below_drewN | apply below_drew1 | refine below_set ?_ GE111.out | refine below_set ?_ GE113.out) | exact HB.out)⟩⟩
      ·rw [if_neg c43] at H
       have c43b0 : decide (((rd_T55 ((rd_T32 l0 a1).f5) a2).f1) < 0) = false := decide_eq_false c43
       clear c43
       (first | rw [c43b0] | (simp only [i64_w, i32_w]; rw [c43b0]) | skip)
       as_aux_lemma =>
        have H' := Aside0.mk H
        clear H
        have hnb46 := NB113_111.out
        have hnc46 := NB111_113.out
        obtain ⟨hcz47_0, hcz47_1, hcz47_2, hfz47_0, hfz47_1, hfz47_2⟩ := cells3 BK113.out
        go_wp2
        repeat (go_quiet (fail); try go_wp2)
        go_meet
        case rel => exact ⟨_, (decide (((rd_T55 ((rd_T32 l0 a1).f5) a2).f1) ≥ a1)), (by first | rfl | (simp; done) | (simp [*]; done)), H', ⟨by have := HJ7.out; first | omega | exact Nat.le_refl _⟩, ⟨by (with_reducible repeat (first | refine blk_drewN ?_ _ | refine blk_drew ?_ | refine blk_alloc ?_ _)); exact BK111.out⟩, ⟨by (with_reducible repeat (first | refine blk_drewN ?_ _ | refine blk_drew ?_ | refine blk_alloc ?_ _)); exact BK113.out⟩, ⟨by repeat (first | (with_reducible first | exact HB.out | apply below_alloc | apply pw_below_drewN | apply below_drew1 | refine below_set ?_ GE111.out | refine below_set ?_ GE113.out) | exact HB.out)⟩⟩
     case rest =>
      clear HC37
      try clear c4; try clear c4b0; try clear c5; try clear c5b0; try clear c6; try clear c6b0; try clear c7; try clear c7b0; try clear c27; try clear c28; try clear c28b0; try clear c28b1; try clear c29; try clear c29b0; try clear c29b1; try clear c31; try clear q41; try clear hcz10_0; try clear hcz10_1; try clear hcz10_2; try clear hcz10_3; try clear hcz10_4; try clear hcz10_5; try clear hcz13_0; try clear hcz13_1; try clear hcz13_2; try clear hcz39_0; try clear hcz39_1; try clear hcz39_2; try clear hcz40_0; try clear hcz40_1; try clear hcz40_2; try clear hcz40_3; try clear hcz40_4; try clear hcz40_5; try clear hfz10_0; try clear hfz10_1; try clear hfz10_2; try clear hfz10_3; try clear hfz10_4; try clear hfz10_5; try clear hfz13_0; try clear hfz13_1; try clear hfz13_2; try clear hfz39_0; try clear hfz39_1; try clear hfz39_2; try clear hfz40_0; try clear hfz40_1; try clear hfz40_2; try clear hfz40_3; try clear hfz40_4; try clear hfz40_5; try clear hx110_0; try clear hx110_1; try clear hx110_2; try clear hx110_3; try clear hx110_4; try clear hx110_5; try clear hx112_0; try clear hx112_1; try clear hx112_2; try clear p110; try clear p112; try clear q110; try clear q112; try clear q41
      obtain ⟨kq, x49_36, rfl, HA, HJ36, BK111, BK113, HB⟩ := hcut
      cases kq with
      | zero => exact absurd HA.out (by simp [records_field.j1])
      | succ kj36 =>
       have H := HA.out
       clear HA
       simp only [records_field.j1] at H
       by_cases c48 : x49_36 = true
       ·subst c48
        have H1 : (some 3) = some r := by rw [if_pos rfl] at H; exact H
        replace H := H1; clear H1
        as_aux_lemma =>
         obtain rfl := Option.some.inj H
         go_wp2
         repeat (go_quiet (fail); try go_wp2)
         go_ret
         exact ⟨by first | rfl | (simp [errW_none, errW_some] <;> rfl) | (simp [*, errW_none, errW_some] <;> rfl), by repeat (first | (with_reducible first | exact HB.out | apply below_alloc | apply pw_below_drewN | apply below_drew1 | refine below_set ?_ GE111.out | refine below_set ?_ GE113.out) | exact HB.out)⟩
       ·replace c48 := Bool.eq_false_iff.mpr c48
        subst c48
        have H1 : (if ((rd_T55 ((rd_T32 l0 a1).f5) a2).f2) < x9_7 then (some 5) else (if ((rd_T55 ((rd_T32 l0 a1).f5) a2).f2) > ((rd_T32 l0 a1).f2) then (some 5) else (if 0 ≤ ((rd_T55 ((rd_T32 l0 a1).f5) a2).f1) then (if ((rd_T55 ((rd_T32 l0 a1).f5) a2).f1) < (l0.length : Int) then (if (wrap64 (((rd_T55 ((rd_T32 l0 a1).f5) a2).f2) + ((rd_T32 l0 ((rd_T55 ((rd_T32 l0 a1).f5) a2).f1)).f2))) > ((rd_T32 l0 a1).f2) then (some 5) else (some 0)) else (none)) else (none)))) = some r := by rw [if_neg (show ¬ (false = true) by decide)] at H; exact H
        replace H := H1; clear H1
        by_cases c49 : ((rd_T55 ((rd_T32 l0 a1).f5) a2).f2) < x9_7
        ·rw [if_pos c49] at H
         have c49b0 : decide (((rd_T55 ((rd_T32 l0 a1).f5) a2).f2) < x9_7) = true := decide_eq_true c49
         clear c49
         as_aux_lemma =>
          obtain rfl := Option.some.inj H
          have hnb50 := NB113_111.out
          have hnc50 := NB111_113.out
          obtain ⟨hcz51_0, hcz51_1, hcz51_2, hfz51_0, hfz51_1, hfz51_2⟩ := cells3 BK113.out
          go_wp2
          repeat (go_quiet (fail); try go_wp2)
          go_ret
          exact ⟨by first | rfl | (simp [errW_none, errW_some] <;> rfl) | (simp [*, errW_none, errW_some] <;> rfl), by repeat (first | (with_reducible first | exact HB.out | apply below_alloc | apply pw_below_drewN | apply below_drew1 | refine below_set ?_ GE111.out | refine below_set ?_ GE113.out) | exact HB.out)⟩
        ·rw [if_neg c49] at H
         have c49b0 : decide (((rd_T55 ((rd_T32 l0 a1).f5) a2).f2) < x9_7) = false := decide_eq_false c49
         clear c49
         by_cases c52 : ((rd_T55 ((rd_T32 l0 a1).f5) a2).f2) > ((rd_T32 l0 a1).f2)
         ·rw [if_pos c52] at H
          have c52b0 : decide (((rd_T32 l0 a1).f2) < ((rd_T55 ((rd_T32 l0 a1).f5) a2).f2)) = true := decide_eq_true c52
          clear c52
          as_aux_lemma =>
           obtain rfl := Option.some.inj H
           have hnb53 := NB113_111.out
           have hnc53 := NB111_113.out
           have hcz54_0 : wc.cell? ⟨gb113, 0, none⟩ = some (.string ((rd_T55 ((rd_T32 l0 a1).f5) a2).f0)) := (blk_cell BK113.out 0).trans rfl
           have hcz54_1 : wc.cell? ⟨gb113, 1, none⟩ = some (.int .i64 ((rd_T55 ((rd_T32 l0 a1).f5) a2).f1)) := (blk_cell BK113.out 1).trans rfl
           have hcz54_2 : wc.cell? ⟨gb113, 2, none⟩ = some (.int .i64 ((rd_T55 ((rd_T32 l0 a1).f5) a2).f2)) := (blk_cell BK113.out 2).trans rfl
           have hfz54_0 := blk_frozen BK113.out 0
           have hfz54_1 := blk_frozen BK113.out 1
           have hfz54_2 := blk_frozen BK113.out 2
           have hcz55_0 : wc.cell? ⟨gb111, 0, none⟩ = some (.int .i64 ((rd_T32 l0 a1).f0)) := (blk_cell BK111.out 0).trans rfl
           have hcz55_1 : wc.cell? ⟨gb111, 1, none⟩ = some (.string ((rd_T32 l0 a1).f1)) := (blk_cell BK111.out 1).trans rfl
           have hcz55_2 : wc.cell? ⟨gb111, 2, none⟩ = some (.int .i64 ((rd_T32 l0 a1).f2)) := (blk_cell BK111.out 2).trans rfl
           have hcz55_3 : wc.cell? ⟨gb111, 3, none⟩ = some (.int .i64 ((rd_T32 l0 a1).f3)) := (blk_cell BK111.out 3).trans rfl
           have hcz55_4 : wc.cell? ⟨gb111, 4, none⟩ = some (.int .i64 ((rd_T32 l0 a1).f4)) := (blk_cell BK111.out 4).trans rfl
           have hcz55_5 : wc.cell? ⟨gb111, 5, none⟩ = some (.slice (some ad112) ((rd_T32 l0 a1).f5).length c110_5) := (blk_cell BK111.out 5).trans rfl
           have hfz55_0 := blk_frozen BK111.out 0
           have hfz55_1 := blk_frozen BK111.out 1
           have hfz55_2 := blk_frozen BK111.out 2
           have hfz55_3 := blk_frozen BK111.out 3
           have hfz55_4 := blk_frozen BK111.out 4
           have hfz55_5 := blk_frozen BK111.out 5
           go_wp2
           repeat (go_quiet (fail); try go_wp2)
           go_ret
           exact ⟨by first | rfl | (simp [errW_none, errW_some] <;> rfl) | (simp [*, errW_none, errW_some] <;> rfl), by repeat (first | (with_reducible first | exact HB.out | apply below_alloc | apply pw_below_drewN | apply below_drew1 | refine below_set ?_ GE111.out | refine below_set ?_ GE113.out) | exact HB.out)⟩
         ·rw [if_neg c52] at H
          have c52b0 : decide (((rd_T32 l0 a1).f2) < ((rd_T55 ((rd_T32 l0 a1).f5) a2).f2)) = false := decide_eq_false c52
          clear c52
          by_cases c56 : 0 ≤ ((rd_T55 ((rd_T32 l0 a1).f5) a2).f1)
          case neg => rw [if_neg c56] at H; exact absurd H (by simp)
          rw [if_pos c56] at H
          have c56b0 : decide (0 ≤ ((rd_T55 ((rd_T32 l0 a1).f5) a2).f1)) = true := decide_eq_true c56
          clear c56
          by_cases c57 : ((rd_T55 ((rd_T32 l0 a1).f5) a2).f1) < (l0.length : Int)
          case neg => rw [if_neg c57] at H; exact absurd H (by simp)
          rw [if_pos c57] at H
          have c57b0 : decide (((rd_T55 ((rd_T32 l0 a1).f5) a2).f1) < (l0.length : Int)) = true := decide_eq_true c57
          clear c57
          by_cases c58 : (wrap64 (((rd_T55 ((rd_T32 l0 a1).f5) a2).f2) + ((rd_T32 l0 ((rd_T55 ((rd_T32 l0 a1).f5) a2).f1)).f2))) > ((rd_T32 l0 a1).f2)
          ·rw [if_pos c58] at H
           have c58b0 : decide (((rd_T32 l0 a1).f2) < (wrap64 (((rd_T55 ((rd_T32 l0 a1).f5) a2).f2) + ((rd_T32 l0 ((rd_T55 ((rd_T32 l0 a1).f5) a2).f1)).f2)))) = true := decide_eq_true c58
           clear c58
           as_aux_lemma =>
            obtain rfl := Option.some.inj H
            have hnb59 := NB113_111.out
            have hnc59 := NB111_113.out
            have hcz60_0 : wc.cell? ⟨gb113, 0, none⟩ = some (.string ((rd_T55 ((rd_T32 l0 a1).f5) a2).f0)) := (blk_cell BK113.out 0).trans rfl
            have hcz60_1 : wc.cell? ⟨gb113, 1, none⟩ = some (.int .i64 ((rd_T55 ((rd_T32 l0 a1).f5) a2).f1)) := (blk_cell BK113.out 1).trans rfl
            have hcz60_2 : wc.cell? ⟨gb113, 2, none⟩ = some (.int .i64 ((rd_T55 ((rd_T32 l0 a1).f5) a2).f2)) := (blk_cell BK113.out 2).trans rfl
            have hfz60_0 := blk_frozen BK113.out 0
            have hfz60_1 := blk_frozen BK113.out 1
            have hfz60_2 := blk_frozen BK113.out 2
            have hcz61_0 : wc.cell? ⟨gb111, 0, none⟩ = some (.int .i64 ((rd_T32 l0 a1).f0)) := (blk_cell BK111.out 0).trans rfl
            have hcz61_1 : wc.cell? ⟨gb111, 1, none⟩ = some (.string ((rd_T32 l0 a1).f1)) := (blk_cell BK111.out 1).trans rfl
            have hcz61_2 : wc.cell? ⟨gb111, 2, none⟩ = some (.int .i64 ((rd_T32 l0 a1).f2)) := (blk_cell BK111.out 2).trans rfl
            have hcz61_3 : wc.cell? ⟨gb111, 3, none⟩ = some (.int .i64 ((rd_T32 l0 a1).f3)) := (blk_cell BK111.out 3).trans rfl
            have hcz61_4 : wc.cell? ⟨gb111, 4, none⟩ = some (.int .i64 ((rd_T32 l0 a1).f4)) := (blk_cell BK111.out 4).trans rfl
            have hcz61_5 : wc.cell? ⟨gb111, 5, none⟩ = some (.slice (some ad112) ((rd_T32 l0 a1).f5).length c110_5) := (blk_cell BK111.out 5).trans rfl
            have hfz61_0 := blk_frozen BK111.out 0
            have hfz61_1 := blk_frozen BK111.out 1
            have hfz61_2 := blk_frozen BK111.out 2
            have hfz61_3 := blk_frozen BK111.out 3
            have hfz61_4 := blk_frozen BK111.out 4
            have hfz61_5 := blk_frozen BK111.out 5
            have p123 : 0 ≤ (((rd_T55 ((rd_T32 l0 a1).f5) a2).f1) : Int) := of_decide_eq_true (by first | (with_reducible assumption) | assumption)
            have q123 : ((rd_T55 ((rd_T32 l0 a1).f5) a2).f1) < (l0.length : Int) := of_decide_eq_true (by first | (with_reducible assumption) | assumption)
            obtain ⟨ad123, A123_5, c123_5, e123, hx123_0, hx123_1, hx123_2, hx123_3, hx123_4, hx123_5, hl123_5, hi123_5⟩ := at_T32 HR0.out ((rd_T55 ((rd_T32 l0 a1).f5) a2).f1) p123 q123
            obtain rfl : ad110 = ad123 := (by injection e123)
            replace hx123_0 := (HB.out.cell (World.block_lt_of_cell? w _ hx123_0)).trans hx123_0
            replace hx123_1 := (HB.out.cell (World.block_lt_of_cell? w _ hx123_1)).trans hx123_1
            replace hx123_2 := (HB.out.cell (World.block_lt_of_cell? w _ hx123_2)).trans hx123_2
            replace hx123_3 := (HB.out.cell (World.block_lt_of_cell? w _ hx123_3)).trans hx123_3
            replace hx123_4 := (HB.out.cell (World.block_lt_of_cell? w _ hx123_4)).trans hx123_4
            replace hx123_5 := (HB.out.cell (World.block_lt_of_cell? w _ hx123_5)).trans hx123_5
            have HR123_5 := Aside0.mk hi123_5
            have HC123_5 := Aside0.mk hl123_5
            clear hi123_5 hl123_5
            replace p123 := eq_true p123
            replace q123 := eq_true q123
            go_wp2
            repeat (go_quiet (fail); try go_wp2)
            go_ret
            exact ⟨by first | rfl | (simp [errW_none, errW_some] <;> rfl) | (simp [*, errW_none, errW_some] <;> rfl), by repeat (first | (with_reducible first | exact HB.out | apply below_alloc | apply pw_below_drewN | apply below_drew1 | refine below_set ?_ GE111.out | refine below_set ?_ GE113.out) | exact HB.out)⟩
          ·rw [if_neg c58] at H
           have c58b0 : decide (((rd_T32 l0 a1).f2) < (wrap64 (((rd_T55 ((rd_T32 l0 a1).f5) a2).f2) + ((rd_T32 l0 ((rd_T55 ((rd_T32 l0 a1).f5) a2).f1)).f2)))) = false := decide_eq_false c58
           clear c58
           as_aux_lemma =>
            obtain rfl := Option.some.inj H
            have hnb62 := NB113_111.out
            have hnc62 := NB111_113.out
            have hcz63_0 : wc.cell? ⟨gb113, 0, none⟩ = some (.string ((rd_T55 ((rd_T32 l0 a1).f5) a2).f0)) := (blk_cell BK113.out 0).trans rfl
            have hcz63_1 : wc.cell? ⟨gb113, 1, none⟩ = some (.int .i64 ((rd_T55 ((rd_T32 l0 a1).f5) a2).f1)) := (blk_cell BK113.out 1).trans rfl
            have hcz63_2 : wc.cell? ⟨gb113, 2, none⟩ = some (.int .i64 ((rd_T55 ((rd_T32 l0 a1).f5) a2).f2)) := (blk_cell BK113.out 2).trans rfl
            have hfz63_0 := blk_frozen BK113.out 0
            have hfz63_1 := blk_frozen BK113.out 1
            have hfz63_2 := blk_frozen BK113.out 2
            have hcz64_0 : wc.cell? ⟨gb111, 0, none⟩ = some (.int .i64 ((rd_T32 l0 a1).f0)) := (blk_cell BK111.out 0).trans rfl
            have hcz64_1 : wc.cell? ⟨gb111, 1, none⟩ = some (.string ((rd_T32 l0 a1).f1)) := (blk_cell BK111.out 1).trans rfl
            have hcz64_2 : wc.cell? ⟨gb111, 2, none⟩ = some (.int .i64 ((rd_T32 l0 a1).f2)) := (blk_cell BK111.out 2).trans rfl
            have hcz64_3 : wc.cell? ⟨gb111, 3, none⟩ = some (.int .i64 ((rd_T32 l0 a1).f3)) := (blk_cell BK111.out 3).trans rfl
            have hcz64_4 : wc.cell? ⟨gb111, 4, none⟩ = some (.int .i64 ((rd_T32 l0 a1).f4)) := (blk_cell BK111.out 4).trans rfl
            have hcz64_5 : wc.cell? ⟨gb111, 5, none⟩ = some (.slice (some ad112) ((rd_T32 l0 a1).f5).length c110_5) := (blk_cell BK111.out 5).trans rfl
            have hfz64_0 := blk_frozen BK111.out 0
            have hfz64_1 := blk_frozen BK111.out 1
            have hfz64_2 := blk_frozen BK111.out 2
            have hfz64_3 := blk_frozen BK111.out 3
            have hfz64_4 := blk_frozen BK111.out 4
            have hfz64_5 := blk_frozen BK111.out 5
            have p123 : 0 ≤ (((rd_T55 ((rd_T32 l0 a1).f5) a2).f1) : Int) := of_decide_eq_true (by first | (with_reducible assumption) | assumption)
            have q123 : ((rd_T55 ((rd_T32 l0 a1).f5) a2).f1) < (l0.length : Int) := of_decide_eq_true (by first | (with_reducible assumption) | assumption)
            obtain ⟨ad123, A123_5, c123_5, e123, hx123_0, hx123_1, hx123_2, hx123_3, hx123_4, hx123_5, hl123_5, hi123_5⟩ := at_T32 HR0.out ((rd_T55 ((rd_T32 l0 a1).f5) a2).f1) p123 q123
            obtain rfl : ad110 = ad123 := (by injection e123)
            replace hx123_0 := (HB.out.cell (World.block_lt_of_cell? w _ hx123_0)).trans hx123_0
            replace hx123_1 := (HB.out.cell (World.block_lt_of_cell? w _ hx123_1)).trans hx123_1
            replace hx123_2 := (HB.out.cell (World.block_lt_of_cell? w _ hx123_2)).trans hx123_2
            replace hx123_3 := (HB.out.cell (World.block_lt_of_cell? w _ hx123_3)).trans hx123_3
            replace hx123_4 := (HB.out.cell (World.block_lt_of_cell? w _ hx123_4)).trans hx123_4
            replace hx123_5 := (HB.out.cell (World.block_lt_of_cell? w _ hx123_5)).trans hx123_5
            have HR123_5 := Aside0.mk hi123_5
            have HC123_5 := Aside0.mk hl123_5
            clear hi123_5 hl123_5
            replace p123 := eq_true p123
            replace q123 := eq_true q123
            go_wp2
            repeat (go_quiet (fail); try go_wp2)
            go_ret
            exact ⟨by first | rfl | (simp [errW_none, errW_some] <;> rfl) | (simp [*, errW_none, errW_some] <;> rfl), by repeat (first | (with_reducible first | exact HB.out | apply below_alloc | apply pw_below_drewN | apply below_drew1 | refine below_set ?_ GE111.out | refine below_set ?_ GE113.out) | exact HB.out)⟩
   ·replace c27 := Bool.eq_false_iff.mpr c27
    subst c27
    have H1 : (some 12) = some r := by rw [if_neg (show ¬ (false = true) by decide)] at H; exact H
    replace H := H1; clear H1
    as_aux_lemma =>
     obtain rfl := Option.some.inj H
     have hnb65 := NB113_111.out
     have hnc65 := NB111_113.out
     obtain ⟨hcz66_0, hcz66_1, hcz66_2, hfz66_0, hfz66_1, hfz66_2⟩ := cells3 BK113.out
     go_wp2_with (first | (go_at_call 33; (with_reducible refine (token_IsName.calls kj7 ((rd_T55 ((rd_T32 l0 a1).f5) a2).f0) false _ A26.out).mono ?_); rintro e w' ⟨rfl, ⟨nd, rfl⟩⟩; (try first | exact ⟨rfl, _, World.drewN_drewN _ _ _⟩ | exact ⟨rfl, _, Eq.trans (World.drewN_drewN _ _ _) (congrArg (World.drewN _) (Nat.add_assoc _ _ _))⟩)))
     repeat (go_quiet (fail); try go_wp2)
     go_ret
     exact ⟨by first | rfl | (simp [errW_none, errW_some] <;> rfl) | (simp [*, errW_none, errW_some] <;> rfl), by repeat (first | (with_reducible first | exact HB.out | apply below_alloc | apply pw_below_drewN | apply below_drew1 | refine below_set ?_ GE111.out | refine below_set ?_ GE113.out) | exact HB.out)⟩

end Go.Proofs.Ytpmlcmdojmdmhaa.PR
-- BKX
