/- The reference's SameTypes, walked by hand: it tells whether two types are equal. -/
import Derived.Test.YtpmlcmdojmdmhaaHSF
import Derived.Test.YtpmlcmdojmdmhaaHEq59
import Derived.Test.YtpmlcmdojmdmhaaHPairs
set_option linter.unusedVariables false
set_option linter.unusedSimpArgs false
set_option maxRecDepth 100000
namespace Go.Proofs.Ytpmlcmdojmdmhaa.PR
open Go.RowKit Go.Proofs.YtpmlcmdojmdmhaaW.PrintWords Go.Proofs.YtpmlcmdojmdmhaaW.PrintLast Go.Proofs.YtpmlcmdojmdmhaaW.PrintMore
attribute [local go_sem high] eqA59
/-- The list of pairs in memory. -/
structure Stt (w W : World) (v9 : Value) (td : List S59) : Prop where
 o : Kd.R k59 59 W w.heap.size (fun _ => True) v9 td
 bel : Below w.heap.size w W
theorem Stt.step {w W W' : World} {v9 : Value} {td : List S59} (h : Stt w W v9 td) (hb : Below W.heap.size W W') : Stt w W' v9 td := ⟨Kd.R_below h.o hb, below_step h.bel hb⟩
theorem Stt.drewN {w W : World} {v9 : Value} {td : List S59} (h : Stt w W v9 td) (n : Nat) : Stt w (W.drewN n) v9 td := ⟨Kd.R_drewN h.o n, pw_below_drewN h.bel n⟩
theorem nth_rd (td : List S59) (m : Nat) : rd_T59 td (m : Int) = nth td m := by simp [rd_T59, nth]
set_option maxHeartbeats 4000000 in
theorem sameTypes_calls (w : World) (A : Option Addr) (c : Nat) (a : List S32) (hC : Kd.C k32 w A a.length a) (hc : a.length ≤ c) (B : Option Addr) (d : Nat) (b : List S32) (hD : Kd.C k32 w B b.length b) (hd : b.length ≤ d) (ha : Valid a) (hb : Valid b) (i k : Int) (hi : Inr a i) (hk : Inr b k) (r : Bool) (hr : r = true ↔ Bis a b i k) :
 Calls Try.prog 19 #[.slice A a.length c, .int .i64 i, .slice B b.length d, .int .i64 k] w fun e w' => e = .returned (.bool r) ∧ Below w.heap.size w w' := by
 have hu59 := Try.underlying59
 have hu32 := Try.underlying32
 have HRA := Aside0.mk hC
 have HRB := Aside0.mk hD
 have HV := Aside0.mk (And.intro ha hb)
 have HR := Aside0.mk hr
 have HM := Aside0.mk (show a.length * b.length ≤ 900 from Nat.le_trans (Nat.mul_le_mul ha.1 hb.1) (by decide))
 have HD := Aside0.mk (Done.start hi hk)
 clear hC hc hD hd ha hb hi hk hr
 go_enter Try.func19, Try.ntmps19
 go_wp2_with (first | ((with_reducible refine gate_dst (N := 21) rfl ?_); refine Kd.R_lit k59 _ 59 ?hg (N := 21) ?hd (xs := ([(⟨i, k⟩ : S59)] : List S59)) (inner := [.int .i64 i, .int .i64 k]) (ok := fun _ => True) (okp := fun _ => True) ?hr ?hp (fun _ hk => hk) trivial (Below.refl _ _) (Nat.le_refl _) (by simp) ?_; (case hd => rfl); (case hg => rfl); (case hr => first | (go_simp; done) | (go_simp; rfl)); (case hp => exact (Reps.c2 (show Kd.M k59 _ _ _ (⟨i, k⟩ : S59) [.int .i64 i, .int .i64 k] from (k59_mkM _ _ _ (⟨i, k⟩ : S59))) (Reps.none _ _))); intro v9 w9 ho9 hb9 hg_ hnew_; clear hg_ hnew_; have HS := Aside0.mk (Stt.mk ho9 hb9); clear ho9 hb9))
 go_loopg [9, 10] (a.length * b.length) (fun kq v9 v10 w' => ∃ (td : List S59) (n : Nat), v10 = .int .i64 (n : Int) ∧ Aside0 (n + kq = a.length * b.length) ∧ Aside0 (Done a b i k td n) ∧ Aside0 (Stt w w' v9 td))
 case atStart => exact ⟨[⟨i, k⟩], 0, rfl, ⟨by omega⟩, HD, HS⟩
 case round =>
  clear HS HD
  obtain ⟨td, n, rfl, HN, HD, HS⟩ := hrel
  obtain ⟨A9, c9, e9⟩ := Kd.R_slice HS.out.o
  subst e9
  by_cases hn : n < td.length
  case neg =>
   have d1 : decide ((n : Int) < (td.length : Int)) = false := decide_eq_false (by omega)
   have d1n : decide (n < td.length) = false := decide_eq_false hn
   obtain rfl : r = true := HR.out.2 (HD.out.yes (by omega))
   clear hn
   go_wp2
   go_ret
   exact ⟨rfl, HS.out.bel⟩
  cases gk with
  | zero => exfalso; have h1 := HD.out.len; have h2 := HN.out; omega
  | succ dd =>
   have hl9 := HD.out.len
   have hl90 := HM.out
   obtain ⟨t, ht⟩ : ∃ t, nth td n = t := ⟨_, rfl⟩
   obtain ⟨⟨ia0, ia1⟩, ib0, ib1⟩ := HD.out.rng t (ht ▸ nth_mem hn)
   obtain ⟨ad9, e9, hq0, hq1⟩ := at_T59 (Kd.R_reads' HS.out.o).2.2 (n : Int) (by omega) (by omega)
   subst e9
   rw [nth_rd, ht] at hq0 hq1
   simp only [Int.toNat_natCast] at hq0 hq1
   obtain ⟨ad, A5, c5, eA, x0, x1, x2, x3, x4, x5, hlx, hix⟩ := at_T32 HRA.out t.f0 ia0 ia1
   subst eA
   obtain ⟨bd, B5, d5, eB, y0, y1, y2, y3, y4, y5, hly, hiy⟩ := at_T32 HRB.out t.f1 ib0 ib1
   subst eB
   have HNX := Aside0.mk (show (rd_T32 a t.f0).f5.length ≤ 8 from by have := (HV.out.1.tv ia0 ia1).n8; omega)
   have HNY := Aside0.mk (show (rd_T32 b t.f1).f5.length ≤ 8 from by have := (HV.out.2.tv ib0 ib1).n8; omega)
   have HSP := Aside0.mk (stp_small (HV.out.1.tv ia0 ia1))
   have HT := Aside0.mk ht
   have HNL := Aside0.mk hn
   have HTD := Aside0.mk hl9
   replace x0 := (HS.out.bel.cell (World.block_lt_of_cell? w _ x0)).trans x0
   replace x1 := (HS.out.bel.cell (World.block_lt_of_cell? w _ x1)).trans x1
   replace x2 := (HS.out.bel.cell (World.block_lt_of_cell? w _ x2)).trans x2
   replace x3 := (HS.out.bel.cell (World.block_lt_of_cell? w _ x3)).trans x3
   replace x4 := (HS.out.bel.cell (World.block_lt_of_cell? w _ x4)).trans x4
   replace x5 := (HS.out.bel.cell (World.block_lt_of_cell? w _ x5)).trans x5
   have d1 : decide ((n : Int) < (td.length : Int)) = true := decide_eq_true (by omega)
   have d1n : decide (n < td.length) = true := decide_eq_true hn
   have d2 : decide ((0 : Int) ≤ (n : Int)) = true := decide_eq_true (by omega)
   have d3 : ((0 : Int) ≤ (n : Int)) = True := eq_true (by omega)
   have d4 : ((n : Int) < (td.length : Int)) = True := eq_true (by omega)
   have a1 : decide ((0 : Int) ≤ t.f0) = true := decide_eq_true ia0
   have a2 : decide (t.f0 < (a.length : Int)) = true := decide_eq_true ia1
   have a3 : ((0 : Int) ≤ t.f0) = True := eq_true ia0
   have a4 : (t.f0 < (a.length : Int)) = True := eq_true ia1
   have b1 : decide ((0 : Int) ≤ t.f1) = true := decide_eq_true ib0
   have b2 : decide (t.f1 < (b.length : Int)) = true := decide_eq_true ib1
   have b3 : ((0 : Int) ≤ t.f1) = True := eq_true ib0
   have b4 : (t.f1 < (b.length : Int)) = True := eq_true ib1
   obtain ⟨x, hx⟩ : ∃ x, rd_T32 a t.f0 = x := ⟨_, rfl⟩
   obtain ⟨y, hy⟩ : ∃ y, rd_T32 b t.f1 = y := ⟨_, rfl⟩
   rw [hx] at x0 x1 x2 x3 x4 x5 hix HNX HSP
   rw [hy] at y0 y1 y2 y3 y4 y5 hiy HNY
   have HYC := Aside0.mk (And.intro y0 (And.intro y1 (And.intro y2 (And.intro y3 (And.intro y4 y5)))))
   have HXC := Aside0.mk hix
   have HYC5 := Aside0.mk hiy
   have HQ1 := Aside0.mk hq1
   have HXY := Aside0.mk (And.intro hx hy)
   clear hn hl9 hl90 ht ia0 ia1 ib0 ib1 hlx hix hly hiy y0 y1 y2 y3 y4 y5 hq1 hx hy
   by_cases hal : Alike x y
   case neg =>
    have HAL := Aside0.mk (show false = true ↔ Alike x y from ⟨fun h => (by cases h), fun h => absurd h hal⟩)
    obtain rfl : r = false := by
     have h := HD.out.no HNL.out (by rw [HT.out, HXY.out.1, HXY.out.2]; exact hal)
     cases r with
     | false => rfl
     | true => exact absurd (HR.out.1 rfl) h
    clear hal
    go_wp2_with (first
     | ((with_reducible refine gate_dst (N := 11) rfl ?_); refine box_event ?hg (N := 11) ?hd (cs := #[.int .i64 0, .string (⟨#[]⟩ : ByteArray), .int .i64 0, .int .i64 0, .int .i64 0, .slice none 0 0]) (t := 32) ?hr ?_; (case hd => rfl); (case hg => rfl); (case hr => first | (go_simp; done) | (go_simp; rfl)); intro g1 hgb W7 hbx hb7; have hz0 := (blk_cell hbx 0).trans rfl; have hy0 := blk_frozen hbx 0; have hz1 := (blk_cell hbx 1).trans rfl; have hy1 := blk_frozen hbx 1; have hz2 := (blk_cell hbx 2).trans rfl; have hy2 := blk_frozen hbx 2; have hz3 := (blk_cell hbx 3).trans rfl; have hy3 := blk_frozen hbx 3; have hz4 := (blk_cell hbx 4).trans rfl; have hy4 := blk_frozen hbx 4; have hz5 := (blk_cell hbx 5).trans rfl; have hy5 := blk_frozen hbx 5; have HX := Aside0.mk (And.intro hgb (And.intro hbx hb7)); clear hbx hb7 hgb)
     | ((with_reducible refine gate_store (t := 32) (p := 11) rfl ?_); refine store_event (t := 32) (p := 11) (v := .tmp 35) (w1 := ((((((W7.setCell ⟨g1, 0, none⟩ (.int .i64 x.f0)).setCell ⟨g1, 1, none⟩ (.string x.f1)).setCell ⟨g1, 2, none⟩ (.int .i64 x.f2)).setCell ⟨g1, 3, none⟩ (.int .i64 x.f3)).setCell ⟨g1, 4, none⟩ (.int .i64 x.f4)).setCell ⟨g1, 5, none⟩ (.slice A5 x.f5.length c5))) ?hg ?ho ?hn ?hr ?_; (case ho => rfl); (case hg => rfl); (case hn => rfl); (case hr => first | (go_simp; done) | (go_simp; rfl)); intro W8 hw8; have hs : Below wr.heap.size wr W8 := (by rw [hw8]; (repeat refine below_set ?_ (Nat.le_of_eq HX.out.1.symm)); exact HX.out.2.2); have hbx8 : W8.heap[g1]? = some (.cells #[.int .i64 x.f0, .string x.f1, .int .i64 x.f2, .int .i64 x.f3, .int .i64 x.f4, .slice A5 x.f5.length c5] 32 (0, 0)) := (by rw [hw8]; exact boxed6 HX.out.2.1); clear HX hw8 hz0 hy0 hz1 hy1 hz2 hy2 hz3 hy3 hz4 hy4 hz5 hy5; have n1_ := Aside0.mk (HS.out.step hs); have BX := Aside0.mk hbx8; have hq1 := (hs.cell (World.block_lt_of_cell? wr _ HQ1.out)).trans HQ1.out; have hv0 := (n1_.out.bel.cell (World.block_lt_of_cell? w _ HYC.out.1)).trans HYC.out.1; have hv1 := (n1_.out.bel.cell (World.block_lt_of_cell? w _ HYC.out.2.1)).trans HYC.out.2.1; have hv2 := (n1_.out.bel.cell (World.block_lt_of_cell? w _ HYC.out.2.2.1)).trans HYC.out.2.2.1; have hv3 := (n1_.out.bel.cell (World.block_lt_of_cell? w _ HYC.out.2.2.2.1)).trans HYC.out.2.2.2.1; have hv4 := (n1_.out.bel.cell (World.block_lt_of_cell? w _ HYC.out.2.2.2.2.1)).trans HYC.out.2.2.2.2.1; have hv5 := (n1_.out.bel.cell (World.block_lt_of_cell? w _ HYC.out.2.2.2.2.2)).trans HYC.out.2.2.2.2.2; clear HS hs hbx8; have HS := n1_; clear n1_)
     | ((with_reducible refine gate_dst (N := 12) rfl ?_); refine box_event ?hg (N := 12) ?hd (cs := #[.int .i64 0, .string (⟨#[]⟩ : ByteArray), .int .i64 0, .int .i64 0, .int .i64 0, .slice none 0 0]) (t := 32) ?hr ?_; (case hd => rfl); (case hg => rfl); (case hr => first | (go_simp; done) | (go_simp; rfl)); intro g2 hgb W9 hbx hb7; have hz0 := (blk_cell hbx 0).trans rfl; have hy0 := blk_frozen hbx 0; have hz1 := (blk_cell hbx 1).trans rfl; have hy1 := blk_frozen hbx 1; have hz2 := (blk_cell hbx 2).trans rfl; have hy2 := blk_frozen hbx 2; have hz3 := (blk_cell hbx 3).trans rfl; have hy3 := blk_frozen hbx 3; have hz4 := (blk_cell hbx 4).trans rfl; have hy4 := blk_frozen hbx 4; have hz5 := (blk_cell hbx 5).trans rfl; have hy5 := blk_frozen hbx 5; have HX := Aside0.mk (And.intro hgb (And.intro hbx hb7)); clear hbx hb7 hgb)
     | ((with_reducible refine gate_store (t := 32) (p := 12) rfl ?_); refine store_event (t := 32) (p := 12) (v := .tmp 43) (w1 := ((((((W9.setCell ⟨g2, 0, none⟩ (.int .i64 y.f0)).setCell ⟨g2, 1, none⟩ (.string y.f1)).setCell ⟨g2, 2, none⟩ (.int .i64 y.f2)).setCell ⟨g2, 3, none⟩ (.int .i64 y.f3)).setCell ⟨g2, 4, none⟩ (.int .i64 y.f4)).setCell ⟨g2, 5, none⟩ (.slice B5 y.f5.length d5))) ?hg ?ho ?hn ?hr ?_; (case ho => rfl); (case hg => rfl); (case hn => rfl); (case hr => first | (go_simp; done) | (go_simp; rfl)); intro W10 hw8; have hs : Below W8.heap.size W8 W10 := (by rw [hw8]; (repeat refine below_set ?_ (Nat.le_of_eq HX.out.1.symm)); exact HX.out.2.2); have hbx8 : W10.heap[g2]? = some (.cells #[.int .i64 y.f0, .string y.f1, .int .i64 y.f2, .int .i64 y.f3, .int .i64 y.f4, .slice B5 y.f5.length d5] 32 (0, 0)) := (by rw [hw8]; exact boxed6 HX.out.2.1); clear HX hw8 hz0 hy0 hz1 hy1 hz2 hy2 hz3 hy3 hz4 hy4 hz5 hy5; have n1_ := Aside0.mk (HS.out.step hs); have n2_ := Aside0.mk (blk_below BX.out hs); have BY := Aside0.mk hbx8; clear HS BX hs hbx8 hq1 hv0 hv1 hv2 hv3 hv4 hv5; have HS := n1_; have BX := n2_; clear n1_ n2_; have hX0 := (blk_cell BX.out 0).trans rfl; have hX1 := (blk_cell BX.out 1).trans rfl; have hX2 := (blk_cell BX.out 2).trans rfl; have hX3 := (blk_cell BX.out 3).trans rfl; have hX4 := (blk_cell BX.out 4).trans rfl; have hX5 := (blk_cell BX.out 5).trans rfl; have hY0 := (blk_cell BY.out 0).trans rfl; have hY1 := (blk_cell BY.out 1).trans rfl; have hY2 := (blk_cell BY.out 2).trans rfl; have hY3 := (blk_cell BY.out 3).trans rfl; have hY4 := (blk_cell BY.out 4).trans rfl; have hY5 := (blk_cell BY.out 5).trans rfl)
     | (go_at_call 30; refine (sameFields_calls x y A5 c5 B5 d5 false _ (Kd.C_below HXC.out HS.out.bel) (Kd.C_below HYC5.out HS.out.bel) HAL.out).mono ?_; rintro e W11 ⟨rfl, hb⟩; have n1_ := Aside0.mk (HS.out.step hb); have n2_ := Aside0.mk (blk_below BX.out hb); have n3_ := Aside0.mk (blk_below BY.out hb); clear HS BX BY hb hX0 hY0 hX1 hY1 hX2 hY2 hX3 hY3 hX4 hY4 hX5 hY5; have HS := n1_; have BX := n2_; have BY := n3_; clear n1_ n2_ n3_; have hX0 := (blk_cell BX.out 0).trans rfl; have hX1 := (blk_cell BX.out 1).trans rfl; have hX2 := (blk_cell BX.out 2).trans rfl; have hX3 := (blk_cell BX.out 3).trans rfl; have hX4 := (blk_cell BX.out 4).trans rfl; have hX5 := (blk_cell BX.out 5).trans rfl; have hY0 := (blk_cell BY.out 0).trans rfl; have hY1 := (blk_cell BY.out 1).trans rfl; have hY2 := (blk_cell BY.out 2).trans rfl; have hY3 := (blk_cell BY.out 3).trans rfl; have hY4 := (blk_cell BY.out 4).trans rfl; have hY5 := (blk_cell BY.out 5).trans rfl))
    go_ret
    exact ⟨rfl, HS.out.bel⟩
   have HAL := Aside0.mk (show true = true ↔ Alike x y from ⟨fun _ => hal, fun _ => rfl⟩)
   have HMD := Aside0.mk (show Mid a b i k td n t 0 from HT.out ▸ HD.out.mid HNL.out (by rw [HT.out, HXY.out.1, HXY.out.2]; exact hal))
   have HPQ := Aside0.mk hal.len
   clear hal HD
   go_wp2_with (first
    | ((with_reducible refine gate_dst (N := 11) rfl ?_); refine box_event ?hg (N := 11) ?hd (cs := #[.int .i64 0, .string (⟨#[]⟩ : ByteArray), .int .i64 0, .int .i64 0, .int .i64 0, .slice none 0 0]) (t := 32) ?hr ?_; (case hd => rfl); (case hg => rfl); (case hr => first | (go_simp; done) | (go_simp; rfl)); intro g1 hgb W7 hbx hb7; have hz0 := (blk_cell hbx 0).trans rfl; have hy0 := blk_frozen hbx 0; have hz1 := (blk_cell hbx 1).trans rfl; have hy1 := blk_frozen hbx 1; have hz2 := (blk_cell hbx 2).trans rfl; have hy2 := blk_frozen hbx 2; have hz3 := (blk_cell hbx 3).trans rfl; have hy3 := blk_frozen hbx 3; have hz4 := (blk_cell hbx 4).trans rfl; have hy4 := blk_frozen hbx 4; have hz5 := (blk_cell hbx 5).trans rfl; have hy5 := blk_frozen hbx 5; have HX := Aside0.mk (And.intro hgb (And.intro hbx hb7)); clear hbx hb7 hgb)
    | ((with_reducible refine gate_store (t := 32) (p := 11) rfl ?_); refine store_event (t := 32) (p := 11) (v := .tmp 35) (w1 := ((((((W7.setCell ⟨g1, 0, none⟩ (.int .i64 x.f0)).setCell ⟨g1, 1, none⟩ (.string x.f1)).setCell ⟨g1, 2, none⟩ (.int .i64 x.f2)).setCell ⟨g1, 3, none⟩ (.int .i64 x.f3)).setCell ⟨g1, 4, none⟩ (.int .i64 x.f4)).setCell ⟨g1, 5, none⟩ (.slice A5 x.f5.length c5))) ?hg ?ho ?hn ?hr ?_; (case ho => rfl); (case hg => rfl); (case hn => rfl); (case hr => first | (go_simp; done) | (go_simp; rfl)); intro W8 hw8; have hs : Below wr.heap.size wr W8 := (by rw [hw8]; (repeat refine below_set ?_ (Nat.le_of_eq HX.out.1.symm)); exact HX.out.2.2); have hbx8 : W8.heap[g1]? = some (.cells #[.int .i64 x.f0, .string x.f1, .int .i64 x.f2, .int .i64 x.f3, .int .i64 x.f4, .slice A5 x.f5.length c5] 32 (0, 0)) := (by rw [hw8]; exact boxed6 HX.out.2.1); clear HX hw8 hz0 hy0 hz1 hy1 hz2 hy2 hz3 hy3 hz4 hy4 hz5 hy5; have n1_ := Aside0.mk (HS.out.step hs); have BX := Aside0.mk hbx8; have hq1 := (hs.cell (World.block_lt_of_cell? wr _ HQ1.out)).trans HQ1.out; have hv0 := (n1_.out.bel.cell (World.block_lt_of_cell? w _ HYC.out.1)).trans HYC.out.1; have hv1 := (n1_.out.bel.cell (World.block_lt_of_cell? w _ HYC.out.2.1)).trans HYC.out.2.1; have hv2 := (n1_.out.bel.cell (World.block_lt_of_cell? w _ HYC.out.2.2.1)).trans HYC.out.2.2.1; have hv3 := (n1_.out.bel.cell (World.block_lt_of_cell? w _ HYC.out.2.2.2.1)).trans HYC.out.2.2.2.1; have hv4 := (n1_.out.bel.cell (World.block_lt_of_cell? w _ HYC.out.2.2.2.2.1)).trans HYC.out.2.2.2.2.1; have hv5 := (n1_.out.bel.cell (World.block_lt_of_cell? w _ HYC.out.2.2.2.2.2)).trans HYC.out.2.2.2.2.2; clear HS hs hbx8; have HS := n1_; clear n1_)
    | ((with_reducible refine gate_dst (N := 12) rfl ?_); refine box_event ?hg (N := 12) ?hd (cs := #[.int .i64 0, .string (⟨#[]⟩ : ByteArray), .int .i64 0, .int .i64 0, .int .i64 0, .slice none 0 0]) (t := 32) ?hr ?_; (case hd => rfl); (case hg => rfl); (case hr => first | (go_simp; done) | (go_simp; rfl)); intro g2 hgb W9 hbx hb7; have hz0 := (blk_cell hbx 0).trans rfl; have hy0 := blk_frozen hbx 0; have hz1 := (blk_cell hbx 1).trans rfl; have hy1 := blk_frozen hbx 1; have hz2 := (blk_cell hbx 2).trans rfl; have hy2 := blk_frozen hbx 2; have hz3 := (blk_cell hbx 3).trans rfl; have hy3 := blk_frozen hbx 3; have hz4 := (blk_cell hbx 4).trans rfl; have hy4 := blk_frozen hbx 4; have hz5 := (blk_cell hbx 5).trans rfl; have hy5 := blk_frozen hbx 5; have HX := Aside0.mk (And.intro hgb (And.intro hbx hb7)); clear hbx hb7 hgb)
    | ((with_reducible refine gate_store (t := 32) (p := 12) rfl ?_); refine store_event (t := 32) (p := 12) (v := .tmp 43) (w1 := ((((((W9.setCell ⟨g2, 0, none⟩ (.int .i64 y.f0)).setCell ⟨g2, 1, none⟩ (.string y.f1)).setCell ⟨g2, 2, none⟩ (.int .i64 y.f2)).setCell ⟨g2, 3, none⟩ (.int .i64 y.f3)).setCell ⟨g2, 4, none⟩ (.int .i64 y.f4)).setCell ⟨g2, 5, none⟩ (.slice B5 y.f5.length d5))) ?hg ?ho ?hn ?hr ?_; (case ho => rfl); (case hg => rfl); (case hn => rfl); (case hr => first | (go_simp; done) | (go_simp; rfl)); intro W10 hw8; have hs : Below W8.heap.size W8 W10 := (by rw [hw8]; (repeat refine below_set ?_ (Nat.le_of_eq HX.out.1.symm)); exact HX.out.2.2); have hbx8 : W10.heap[g2]? = some (.cells #[.int .i64 y.f0, .string y.f1, .int .i64 y.f2, .int .i64 y.f3, .int .i64 y.f4, .slice B5 y.f5.length d5] 32 (0, 0)) := (by rw [hw8]; exact boxed6 HX.out.2.1); clear HX hw8 hz0 hy0 hz1 hy1 hz2 hy2 hz3 hy3 hz4 hy4 hz5 hy5; have n1_ := Aside0.mk (HS.out.step hs); have n2_ := Aside0.mk (blk_below BX.out hs); have BY := Aside0.mk hbx8; clear HS BX hs hbx8 hq1 hv0 hv1 hv2 hv3 hv4 hv5; have HS := n1_; have BX := n2_; clear n1_ n2_; have hX0 := (blk_cell BX.out 0).trans rfl; have hX1 := (blk_cell BX.out 1).trans rfl; have hX2 := (blk_cell BX.out 2).trans rfl; have hX3 := (blk_cell BX.out 3).trans rfl; have hX4 := (blk_cell BX.out 4).trans rfl; have hX5 := (blk_cell BX.out 5).trans rfl; have hY0 := (blk_cell BY.out 0).trans rfl; have hY1 := (blk_cell BY.out 1).trans rfl; have hY2 := (blk_cell BY.out 2).trans rfl; have hY3 := (blk_cell BY.out 3).trans rfl; have hY4 := (blk_cell BY.out 4).trans rfl; have hY5 := (blk_cell BY.out 5).trans rfl)
    | (go_at_call 30; refine (sameFields_calls x y A5 c5 B5 d5 true _ (Kd.C_below HXC.out HS.out.bel) (Kd.C_below HYC5.out HS.out.bel) HAL.out).mono ?_; rintro e W11 ⟨rfl, hb⟩; have n1_ := Aside0.mk (HS.out.step hb); have n2_ := Aside0.mk (blk_below BX.out hb); have n3_ := Aside0.mk (blk_below BY.out hb); clear HS BX BY hb hX0 hY0 hX1 hY1 hX2 hY2 hX3 hY3 hX4 hY4 hX5 hY5; have HS := n1_; have BX := n2_; have BY := n3_; clear n1_ n2_ n3_; have hX0 := (blk_cell BX.out 0).trans rfl; have hX1 := (blk_cell BX.out 1).trans rfl; have hX2 := (blk_cell BX.out 2).trans rfl; have hX3 := (blk_cell BX.out 3).trans rfl; have hX4 := (blk_cell BX.out 4).trans rfl; have hX5 := (blk_cell BX.out 5).trans rfl; have hY0 := (blk_cell BY.out 0).trans rfl; have hY1 := (blk_cell BY.out 1).trans rfl; have hY2 := (blk_cell BY.out 2).trans rfl; have hY3 := (blk_cell BY.out 3).trans rfl; have hY4 := (blk_cell BY.out 4).trans rfl; have hY5 := (blk_cell BY.out 5).trans rfl)
    | (go_at_call 31; (with_reducible show Calls Try.prog 31 #[.agg #[.int .i64 x.f0, .string x.f1, .int .i64 x.f2, .int .i64 x.f3, .int .i64 x.f4, .slice A5 x.f5.length c5]] _ _); refine (steps_calls x A5 c5 _ (Kd.C_below HXC.out HS.out.bel) HNX.out).mono ?_; rintro e W12 ⟨v13, rfl, hr, hb⟩; have HP := Aside0.mk (Kd.R_lower hr HS.out.bel.size); have n1_ := Aside0.mk (HS.out.step hb); have n3_ := Aside0.mk (blk_below BY.out hb); clear HS BX BY hb hr hX0 hY0 hX1 hY1 hX2 hY2 hX3 hY3 hX4 hY4 hX5 hY5; have HS := n1_; have BY := n3_; clear n1_ n3_; have hY0 := (blk_cell BY.out 0).trans rfl; have hY1 := (blk_cell BY.out 1).trans rfl; have hY2 := (blk_cell BY.out 2).trans rfl; have hY3 := (blk_cell BY.out 3).trans rfl; have hY4 := (blk_cell BY.out 4).trans rfl; have hY5 := (blk_cell BY.out 5).trans rfl)
    | (go_at_call 31; (with_reducible show Calls Try.prog 31 #[.agg #[.int .i64 y.f0, .string y.f1, .int .i64 y.f2, .int .i64 y.f3, .int .i64 y.f4, .slice B5 y.f5.length d5]] _ _); refine (steps_calls y B5 d5 _ (Kd.C_below HYC5.out HS.out.bel) HNY.out).mono ?_; rintro e W13 ⟨v14, rfl, hr, hb⟩; have HQ := Aside0.mk (Kd.R_lower hr HS.out.bel.size); have n1_ := Aside0.mk (HS.out.step hb); have n3_ := Aside0.mk (Kd.R_below HP.out hb); clear HS BY HP hb hr hY0 hY1 hY2 hY3 hY4 hY5; have HS := n1_; have HP := n3_; clear n1_ n3_))
   obtain ⟨AP, cP, eP⟩ := Kd.R_slice HP.out
   subst eP
   obtain ⟨AQ, cQ, eQ⟩ := Kd.R_slice HQ.out
   subst eQ
   go_loopg [9, 15] (stp x).length (fun kq v9 v15 w' => ∃ (td : List S59) (j : Nat), v15 = .int .i64 (j : Int) ∧ Aside0 (j + kq = (stp x).length) ∧ Aside0 (Mid a b i k td n t j) ∧ Aside0 (Stt w w' v9 td) ∧ Aside0 (Kd.R (Kd.int .i64) 3 w' w.heap.size (fun _ => True) (.slice AP (stp x).length cP) (stp x)) ∧ Aside0 (Kd.R (Kd.int .i64) 3 w' w.heap.size (fun _ => True) (.slice AQ (stp y).length cQ) (stp y)))
   case atStart => exact ⟨td, 0, rfl, ⟨by omega⟩, HMD, HS, HP, HQ⟩
   case round =>
    clear HS HMD HP HQ d1 d1n d4 HTD HNL HT
    obtain ⟨td, j, rfl, HJ, HMD, HS, HP, HQ⟩ := hrel
    obtain ⟨A9, c9, e9⟩ := Kd.R_slice HS.out.o
    subst e9
    cases gk with
    | zero =>
     obtain rfl : j = (stp x).length := by have := HJ.out; omega
     have d1 : decide (((stp x).length : Int) < ((stp x).length : Int)) = false := decide_eq_false (by omega)
     have HDN := Aside0.mk (HMD.out.done HV.out.1 (by rw [HXY.out.1]; exact Nat.le_refl _))
     go_wp2
     go_roundg dd
     case measure => omega
     case rel => exact ⟨td, n + 1, by have := HN.out; have := HM.out; rw [show wrap64 ((n : Int) + 1) = ((n + 1 : Nat) : Int) from by unfold wrap64; omega], ⟨by have := HN.out; omega⟩, HDN, HS⟩
    | succ jj =>
     have hj : j < (stp x).length := by have := HJ.out; omega
     have hjy : j < (stp y).length := by have := HPQ.out; omega
     have hl9 : td.length ≤ 900 := Nat.le_trans HMD.out.d.len HM.out
     have HL9 := Aside0.mk hl9
     have HJL := Aside0.mk hj
     have d1 : decide ((j : Int) < ((stp x).length : Int)) = true := decide_eq_true (by omega)
     have d5 : decide ((0 : Int) ≤ (j : Int)) = true := decide_eq_true (by omega)
     have d6 : ((0 : Int) ≤ (j : Int)) = True := eq_true (by omega)
     have d7 : ((j : Int) < ((stp x).length : Int)) = True := eq_true (by omega)
     have d8 : decide ((j : Int) < ((stp y).length : Int)) = true := decide_eq_true (by omega)
     have d9 : ((j : Int) < ((stp y).length : Int)) = True := eq_true (by omega)
     have d1n : decide (j < (stp x).length) = true := decide_eq_true hj
     have HJY := Aside0.mk hjy
     clear hj hjy hl9
     go_wp2
     go_loopg [16, 17] td.length (fun kq v16 v17 w' => ∃ (kn : Bool) (m : Nat), v16 = .bool kn ∧ v17 = .int .i64 (m : Int) ∧ Aside0 (m + kq = td.length) ∧ Aside0 (kn = true ↔ ∃ s, s < m ∧ nth td s = (⟨rd (stp x) (j : Int), rd (stp y) (j : Int)⟩ : S59)) ∧ Aside0 (Stt w w' (.slice A9 td.length c9) td) ∧ Aside0 (Kd.R (Kd.int .i64) 3 w' w.heap.size (fun _ => True) (.slice AP (stp x).length cP) (stp x)) ∧ Aside0 (Kd.R (Kd.int .i64) 3 w' w.heap.size (fun _ => True) (.slice AQ (stp y).length cQ) (stp y)))
     case atStart => exact ⟨false, 0, rfl, rfl, ⟨by omega⟩, ⟨⟨fun h => (by cases h), fun ⟨s, h, _⟩ => (by omega)⟩⟩, HS, HP, HQ⟩
     case round =>
      clear HS HP HQ
      obtain ⟨kn, m, rfl, rfl, HMQ, HK, HS, HP, HQ⟩ := hrel
      obtain ⟨ap, eP, hp⟩ := Kd.at_int (Kd.R_reads' HP.out).2.2 (j : Int) (by omega) (by have := HJL.out; omega)
      subst eP
      obtain ⟨aq, eQ, hq⟩ := Kd.at_int (Kd.R_reads' HQ.out).2.2 (j : Int) (by omega) (by have := HJY.out; omega)
      subst eQ
      rw [Int.toNat_natCast] at hp hq
      cases gk with
      | zero =>
       obtain rfl : m = td.length := by have := HMQ.out; omega
       have d2 : decide ((td.length : Int) < (td.length : Int)) = false := decide_eq_false (by omega)
       cases kn with
       | true =>
        have HMN := Aside0.mk (HMD.out.skip (by
         obtain ⟨s, h1, h2⟩ := HK.out.1 (by first | rfl | trivial)
         rw [HXY.out.1, HXY.out.2, ← h2]
         exact nth_mem h1))
        go_wp2
        go_roundg jj
        case measure => omega
        case rel => exact ⟨td, j + 1, by have := HJ.out; have := HSP.out; rw [show wrap64 ((j : Int) + 1) = ((j + 1 : Nat) : Int) from by unfold wrap64; omega], ⟨by have := HJ.out; omega⟩, HMN, HS, HP, HQ⟩
       | false =>
        have HMN := Aside0.mk (HMD.out.push HV.out.1 HV.out.2 (by rw [HXY.out.1]; exact HJL.out) (fun hm => by
         rw [HXY.out.1, HXY.out.2] at hm
         obtain ⟨s, h1, h2⟩ := mem_nth hm
         have := HK.out.2 ⟨s, h1, h2⟩
         cases this))
        rw [HXY.out.1, HXY.out.2] at HMN
        go_wp2
        have d10 : td.length ≤ 900 := HL9.out
        have n0_ := Aside0.mk (Stt.mk (Kd.R_drew HS.out.o) (below_drew1 HS.out.bel)); have n1_ := Aside0.mk (Kd.R_drew HP.out); have n2_ := Aside0.mk (Kd.R_drew HQ.out); clear HS HP HQ hp hq; have HS := n0_; have HP := n1_; have HQ := n2_; clear n0_ n1_ n2_
        obtain ⟨ap', eP, hp⟩ := Kd.at_int (Kd.R_reads' HP.out).2.2 (j : Int) (by omega) (by have := HJL.out; omega)
        cases eP
        obtain ⟨aq', eQ, hq⟩ := Kd.at_int (Kd.R_reads' HQ.out).2.2 (j : Int) (by omega) (by have := HJY.out; omega)
        cases eQ
        rw [Int.toNat_natCast] at hp hq
        refine start_ (n := 13) (S := fun w' => w'.cell? (ap.add j) = some (.int .i64 (rd (stp x) (j : Int))) ∧ w'.cell? (aq.add j) = some (.int .i64 (rd (stp y) (j : Int)))) (ds := [10, 11]) #[false, false, false, false, false, false, false, false, false, false, false, false, false] (by kernel_rfl) rfl rfl ⟨hp, hq⟩ (fun hHeld => ?_)
        generalize wr.drew = w49 at HS HP HQ hp hq hHeld ⊢
        refine pure_ (i := 0) (N := some 83) (v := ?_) (a' := ?_) #[true, false, false, false, false, false, false, false, false, false, false, false, false] rfl rfl (by kernel_rfl) (fun _ _ _ h => h) (Or.inl ⟨by rfl, ?_⟩) ?_ ?_
        rotate_left
        · intro w'
          go_simp
          with_reducible rfl
        rotate_left
        · simp only [Act.put, List.setIfInBounds_toArray, List.set_cons_zero, List.set_cons_succ, i64_w, i32_w]
          rfl
        refine pure_ (i := 1) (N := some 84) (v := ?_) (a' := ?_) #[true, true, false, false, false, false, false, false, false, false, false, false, false] rfl rfl (by kernel_rfl) (fun _ _ _ h => h) (Or.inl ⟨by rfl, ?_⟩) ?_ ?_
        rotate_left
        · intro w'
          go_simp
          with_reducible rfl
        rotate_left
        · simp only [Act.put, List.setIfInBounds_toArray, List.set_cons_zero, List.set_cons_succ, i64_w, i32_w]
          rfl
        refine pure_ (i := 2) (N := some 85) (v := ?_) (a' := ?_) #[true, true, true, false, false, false, false, false, false, false, false, false, false] rfl rfl (by kernel_rfl) (fun _ _ _ h => h) (Or.inl ⟨by rfl, ?_⟩) ?_ ?_
        rotate_left
        · intro w'
          go_simp
          with_reducible rfl
        rotate_left
        · simp only [Act.put, List.setIfInBounds_toArray, List.set_cons_zero, List.set_cons_succ, i64_w, i32_w]
          rfl
        refine pure_ (i := 3) (N := some 86) (v := ?_) (a' := ?_) #[true, true, true, true, false, false, false, false, false, false, false, false, false] rfl rfl (by kernel_rfl) (fun _ _ _ h => h) (Or.inl ⟨by rfl, ?_⟩) ?_ ?_
        rotate_left
        · intro w'
          go_simp
          with_reducible rfl
        rotate_left
        · simp only [Act.put, List.setIfInBounds_toArray, List.set_cons_zero, List.set_cons_succ, i64_w, i32_w]
          rfl
        refine pure_ (i := 5) (N := some 88) (v := ?_) (a' := ?_) #[true, true, true, true, false, true, false, false, false, false, false, false, false] rfl rfl (by kernel_rfl) (fun _ _ _ h => h) (Or.inl ⟨by rfl, ?_⟩) ?_ ?_
        rotate_left
        · intro w'
          go_simp
          with_reducible rfl
        rotate_left
        · simp only [Act.put, List.setIfInBounds_toArray, List.set_cons_zero, List.set_cons_succ, i64_w, i32_w]
          rfl
        refine pure_ (i := 6) (N := some 89) (v := ?_) (a' := ?_) #[true, true, true, true, false, true, true, false, false, false, false, false, false] rfl rfl (by kernel_rfl) (fun _ _ _ h => h) (Or.inl ⟨by rfl, ?_⟩) ?_ ?_
        rotate_left
        · intro w'
          go_simp
          with_reducible rfl
        rotate_left
        · simp only [Act.put, List.setIfInBounds_toArray, List.set_cons_zero, List.set_cons_succ, i64_w, i32_w]
          rfl
        refine pure_ (i := 7) (N := some 90) (v := ?_) (a' := ?_) #[true, true, true, true, false, true, true, true, false, false, false, false, false] rfl rfl (by kernel_rfl) (fun _ _ _ h => h) (Or.inl ⟨by rfl, ?_⟩) ?_ ?_
        rotate_left
        · intro w'
          go_simp
          with_reducible rfl
        rotate_left
        · simp only [Act.put, List.setIfInBounds_toArray, List.set_cons_zero, List.set_cons_succ, i64_w, i32_w]
          rfl
        refine take_ (i := 4) (N := some 87) (v := ?_) (a' := ?_) #[true, true, true, true, true, true, true, true, false, false, false, false, false] rfl rfl (by kernel_rfl) (fun _ _ _ h => h) (Or.inl ⟨by rfl, ?_⟩) hHeld ?_ ?_
        rotate_left
        · rintro w' ⟨s0, s1⟩
          go_simp
          with_reducible rfl
        rotate_left
        · simp only [Act.put, List.setIfInBounds_toArray, List.set_cons_zero, List.set_cons_succ, i64_w, i32_w]
          rfl
        refine take_ (i := 8) (N := some 91) (v := ?_) (a' := ?_) #[true, true, true, true, true, true, true, true, true, false, false, false, false] rfl rfl (by kernel_rfl) (fun _ _ _ h => h) (Or.inl ⟨by rfl, ?_⟩) hHeld ?_ ?_
        rotate_left
        · rintro w' ⟨s0, s1⟩
          go_simp
          with_reducible rfl
        rotate_left
        · simp only [Act.put, List.setIfInBounds_toArray, List.set_cons_zero, List.set_cons_succ, i64_w, i32_w]
          rfl
        refine pure_ (i := 9) (N := some 92) (v := ?_) (a' := ?_) #[true, true, true, true, true, true, true, true, true, true, false, false, false] rfl rfl (by kernel_rfl) (fun _ _ _ h => h) (Or.inl ⟨by rfl, ?_⟩) ?_ ?_
        rotate_left
        · intro w'
          go_simp
          with_reducible rfl
        rotate_left
        · simp only [Act.put, List.setIfInBounds_toArray, List.set_cons_zero, List.set_cons_succ, i64_w, i32_w]
          rfl
        refine last_ (i := 10) (N := some 93) #[true, true, true, true, true, true, true, true, true, true, true, false, false] rfl rfl (by kernel_rfl) (by decide) (fun K hK => ?_)
        refine value_ (w1 := ?_) (v := ?_) (by rfl) rfl ?_ ?_
        rotate_left 2
        · go_simp
          constructor
          · rfl
          · rfl
        refine hK.out _ _ ?_
        clear hK K
        refine norm_ (a' := ?_) ?_ ?_
        rotate_left
        · show Act.put _ (some 93) _ = _
          simp only [Act.put, List.setIfInBounds_toArray, List.set_cons_zero, List.set_cons_succ, i64_w, i32_w]
          rfl
        refine last_ (i := 11) (N := some 94) #[true, true, true, true, true, true, true, true, true, true, true, true, false] rfl rfl (by kernel_rfl) (by decide) (fun K hK => ?_)
        refine Kd.R_append_step k59 (w0 := w) w.heap.size (by rfl) (.tmp 83) (.tmp 93) 60 59 (.agg #[(.int .i64 0), (.int .i64 0)]) 16 rfl Try.underlying60 info59 rfl (by decide) (by omega) (.slice A9 td.length c9) td (⟨rd (stp x) (j : Int), rd (stp y) (j : Int)⟩ : S59) [.int .i64 (rd (stp x) (j : Int)), .int .i64 (rd (stp y) (j : Int))] (fun _ => True) (fun _ => False) rfl rfl (k59_mkM _ _ _ (⟨rd (stp x) (j : Int), rd (stp y) (j : Int)⟩ : S59)) (fun _ hk => hk.elim) (fun _ _ => trivial) HS.out.o HS.out.bel HS.out.bel.size (by omega) ?_
        intro v94 W5 ho5 hb5 hg5 hat5; have HS5 := Aside0.mk (Stt.mk ho5 hb5); have HP5 := Aside0.mk (Kd.R_over' HP.out (Kd.R_typed HS.out.o) (by decide) hg5); have HQ5 := Aside0.mk (Kd.R_over' HQ.out (Kd.R_typed HS.out.o) (by decide) hg5); clear ho5 hb5 hg5 hat5
        refine hK.out _ _ ?_
        clear hK K
        refine norm_ (a' := ?_) ?_ ?_
        rotate_left
        · show Act.put _ (some 94) _ = _
          simp only [Act.put, List.setIfInBounds_toArray, List.set_cons_zero, List.set_cons_succ, i64_w, i32_w]
          rfl
        refine pure_ (i := 12) (N := some 9) (v := ?_) (a' := ?_) #[true, true, true, true, true, true, true, true, true, true, true, true, true] rfl rfl (by kernel_rfl) (fun _ _ _ h => h) (Or.inl ⟨by rfl, ?_⟩) ?_ ?_
        rotate_left
        · intro w'
          go_simp
          with_reducible rfl
        rotate_left
        · simp only [Act.put, List.setIfInBounds_toArray, List.set_cons_zero, List.set_cons_succ, i64_w, i32_w]
          rfl
        refine done_ (by kernel_rfl) ?_
        try go_wp2
        go_roundg jj
        case measure => omega
        case rel => exact ⟨td ++ [(⟨rd (stp x) (j : Int), rd (stp y) (j : Int)⟩ : S59)], j + 1, by have := HJ.out; have := HSP.out; rw [show wrap64 ((j : Int) + 1) = ((j + 1 : Nat) : Int) from by unfold wrap64; omega], ⟨by have := HJ.out; omega⟩, HMN, HS5, HP5, HQ5⟩
      | succ mm =>
       have hm : m < td.length := by have := HMQ.out; omega
       have hml := HL9.out
       have d2 : decide ((m : Int) < (td.length : Int)) = true := decide_eq_true (by omega)
       have d2n : decide (m < td.length) = true := decide_eq_true hm
       cases kn with
       | true =>
        clear hm hml hp hq
        go_wp2
        repeat (go_quiet (fail); try go_wp2)
        go_roundg mm
        case measure => omega
        case rel => exact ⟨true, m + 1, rfl, by have := HMQ.out; have := HL9.out; rw [show wrap64 ((m : Int) + 1) = ((m + 1 : Nat) : Int) from by unfold wrap64; omega], ⟨by have := HMQ.out; omega⟩, ⟨⟨fun _ => (by obtain ⟨s, h1, h2⟩ := HK.out.1 (by first | rfl | trivial); exact ⟨s, by omega, h2⟩), fun _ => rfl⟩⟩, ⟨by first | exact HS.out | exact HS.out.drewN _⟩, ⟨by first | exact HP.out | exact Kd.R_drewN HP.out _⟩, ⟨by first | exact HQ.out | exact Kd.R_drewN HQ.out _⟩⟩
       | false =>
        obtain ⟨ad9, e9, hq0, hq1⟩ := at_T59 (Kd.R_reads' HS.out.o).2.2 (m : Int) (by omega) (by omega)
        subst e9
        rw [nth_rd] at hq0 hq1
        simp only [Int.toNat_natCast] at hq0 hq1
        have d10 : ((0 : Int) ≤ (m : Int)) = True := eq_true (by omega)
        have d11 : ((m : Int) < (td.length : Int)) = True := eq_true (by omega)
        have d12 : decide ((0 : Int) ≤ (m : Int)) = true := decide_eq_true (by omega)
        clear hm hml
        go_wp2
        repeat (go_quiet (fail); try go_wp2)
        go_roundg mm
        case measure => omega
        case rel => exact ⟨((nth td m).f0 == rd (stp x) (j : Int) && ((nth td m).f1 == rd (stp y) (j : Int))), m + 1, rfl, by have := HMQ.out; have := HL9.out; rw [show wrap64 ((m : Int) + 1) = ((m + 1 : Nat) : Int) from by unfold wrap64; omega], ⟨by have := HMQ.out; omega⟩, ⟨by
         have hno : ∀ s, s < m → nth td s ≠ (⟨rd (stp x) (j : Int), rd (stp y) (j : Int)⟩ : S59) := fun s hs e => by have := HK.out.2 ⟨s, hs, e⟩; cases this
         rw [Bool.and_eq_true, beq_iff_eq, beq_iff_eq]
         constructor
         · rintro ⟨h1, h2⟩
           exact ⟨m, Nat.lt_succ_self m, by rw [← h1, ← h2]⟩
         · rintro ⟨s, h1, h2⟩
           by_cases e : s = m
           · subst e; rw [h2]; exact ⟨rfl, rfl⟩
           · exact absurd h2 (hno s (by omega))⟩, ⟨by first | exact HS.out | exact HS.out.drewN _⟩, ⟨by first | exact HP.out | exact Kd.R_drewN HP.out _⟩, ⟨by first | exact HQ.out | exact Kd.R_drewN HQ.out _⟩⟩
end Go.Proofs.Ytpmlcmdojmdmhaa.PR
