/- The reference's Followed at a valid list and a path of at most 30 steps: it gives what 'fol' says. -/
import Derived.Test.YtpmlcmdojmdmhaaHPth
set_option linter.unusedVariables false
set_option linter.unusedSimpArgs false
set_option maxRecDepth 100000
namespace Go.Proofs.Ytpmlcmdojmdmhaa.PR
open Go.RowKit Go.Proofs.YtpmlcmdojmdmhaaW.PrintWords Go.Proofs.YtpmlcmdojmdmhaaW.PrintLast Go.Proofs.YtpmlcmdojmdmhaaW.PrintMore
theorem in_ev (a b c : Int) (r : Bool) (h : r = true ↔ (b ≤ a ∧ a ≤ c)) : linkhouseref1_In.f a b c = some r := by
  rw [in_eq]
  congr 1
  cases r
  · rw [decide_eq_false_iff_not]; intro h2; exact absurd (h.2 h2) (by simp)
  · rw [decide_eq_true_iff]; exact h.1 rfl
set_option maxHeartbeats 2000000 in
theorem followed_calls (w : World) (A : Option Addr) (c : Nat) (l : List S32) (hC : Kd.C k32 w A l.length l) (hc : l.length ≤ c) (hv : Valid l) (t0 : Int) (ht0 : 0 ≤ t0) (ht1 : t0 < (l.length : Int)) (B : Option Addr) (d : Nat) (p : List Int) (hP : Kd.C (Kd.int .i64) w B p.length p) (hd : p.length ≤ d) (hp : p.length ≤ 30) (r1 r2 r3 r4 : Int) (hr : fol l p 0 t0 0 = (r1, r2, r3, r4)) :
    Calls Try.prog 17 #[.slice A l.length c, .int .i64 t0, .slice B p.length d] w fun e w' => e = .returned (.tuple #[.int .i64 r1, .int .i64 r2, .agg #[.int .i64 r3, .int .i64 r4]]) ∧ Below w.heap.size w w' := by
  have HC := Aside0.mk hC
  have HP := Aside0.mk hP
  have HV := Aside0.mk hv
  have HL := Aside0.mk (And.intro hp (show l.length ≤ 30 from hv.1))
  have HR := Aside0.mk hr
  have HT := Aside0.mk (And.intro ht0 (And.intro ht1 (hv.siz ht0 ht1)))
  clear hC hc hP hd hv hr ht0 ht1 hp
  have HB := Aside0.mk (Below.refl w.heap.size w)
  go_enter Try.func17, Try.ntmps17
  go_wp2_with (first
    | ((with_reducible refine gate_dst (N := 8) rfl ?_); refine box_event ?hg (N := 8) ?hd (cs := #[.int .i64 0, .int .i64 0]) (t := 25) ?hr ?_; (case hd => rfl); (case hg => rfl); (case hr => first | (go_simp; done) | (go_simp; rfl)); intro g8 hg W1 hbx hb1; have n_ := Aside0.mk (below_step HB.out hb1); have B0 := Aside0.mk hbx; have HG := Aside0.mk (show w.heap.size ≤ g8 from by omega); clear HB hbx hb1 hg; have HB := n_; clear n_))
  go_loopg [1, 9, 10] p.length (fun kq v1 v9 v10 w' => ∃ (q : Nat) (t o : Int), v1 = .int .i64 t ∧ v9 = .int .i64 o ∧ v10 = .int .i64 (q : Int) ∧ Aside0 (q + kq = p.length) ∧ Aside0 (0 ≤ t ∧ t < (l.length : Int) ∧ 0 ≤ o ∧ o + sz l t ≤ 1000000) ∧ Aside0 (fol l (p.drop q) q t o = (r1, r2, r3, r4)) ∧ Aside0 (w'.heap[g8]? = some (.cells #[.int .i64 0, .int .i64 0] 25 (0, 0))) ∧ Aside0 (Below w.heap.size w w'))
  case atStart => exact ⟨0, t0, 0, rfl, rfl, rfl, ⟨by omega⟩, ⟨by have := HT.out; omega⟩, HR, B0, HB⟩
  case round =>
    clear B0 HB HR HT
    obtain ⟨q, t, o, rfl, rfl, rfl, HQ, HT, HS, B0, HB⟩ := hrel
    cases gk with
    | zero =>
      obtain rfl : q = p.length := by have := HQ.out; omega
      obtain ⟨rfl, rfl, rfl, rfl⟩ : t = r1 ∧ o = r2 ∧ 0 = r3 ∧ 0 = r4 := by have h := HS.out; rw [List.drop_eq_nil_of_le (Nat.le_refl _), fol] at h; simpa using h
      have d1 : decide ((p.length : Int) < (p.length : Int)) = false := decide_eq_false (by omega)
      have p8 := (blk_cell B0.out 0).trans rfl
      have q8 := (blk_cell B0.out 1).trans rfl
      have r8 := blk_frozen B0.out 0
      have s8 := blk_frozen B0.out 1
      go_wp2
      refine bodyPost_ret (results_list (rs := [.tmp 6, .tmp 7, .cell 8 25]) rfl (by simp) (.tmp (.tmp (.cell g8 25 #[.int .i64 0, .int .i64 0] (0, 0) _ rfl (boxed2 B0.out) Try.underlying25 rfl (by kernel_rfl) .nil)))) rfl ?_
      exact ⟨rfl, below_set (below_set HB.out HG.out) HG.out⟩
    | succ dd =>
      have hlq : q < p.length := by have := HQ.out; omega
      have hl30 := HL.out
      obtain ⟨t0, t1, o0, o1⟩ := HT.out
      have hS := HS.out
      rw [rd_drop p q hlq, fol] at hS
      have tv := HV.out.tv t0 t1
      have hfd := fun k (k0 : 0 ≤ k) (k1 : k < ((rd_T32 l t).f5.length : Int)) => HV.out.fld t0 t1 k0 k1
      have hel := fun (h3 : (rd_T32 l t).f0 = 3) k (k0 : 0 ≤ k) (k1 : k < (rd_T32 l t).f4) => HV.out.elt t0 t1 h3 k0 k1
      obtain ⟨ad, A5, c5, eA, x0, x1, x2, x3, x4, x5, hl5, hi5⟩ := at_T32 HC.out t t0 t1
      subst eA
      obtain ⟨bd, eB, hpc⟩ := Kd.at_int HP.out (q : Int) (by omega) (by omega)
      subst eB
      rw [Int.toNat_natCast] at hpc
      have hsz : sz l t = (rd_T32 l t).f2 := rfl
      generalize rd_T32 l t = x at *
      have HPC := Aside0.mk hpc
      have HI5 := Aside0.mk hi5
      have TV0 := Aside0.mk tv
      have HF := Aside0.mk hfd
      have HE := Aside0.mk hel
      have HSZ := Aside0.mk hsz
      have HS1 := Aside0.mk hS
      have d1 : decide ((q : Int) < (p.length : Int)) = true := decide_eq_true (by omega)
      have d2 : decide ((0 : Int) ≤ (q : Int)) = true := decide_eq_true (by omega)
      have d3 : ((0 : Int) ≤ (q : Int)) = True := eq_true (by omega)
      have d4 : ((q : Int) < (p.length : Int)) = True := eq_true (by omega)
      have d5 : decide ((0 : Int) ≤ t) = true := decide_eq_true t0
      have d6 : decide (t < (l.length : Int)) = true := decide_eq_true t1
      have d7 : ((0 : Int) ≤ t) = True := eq_true t0
      have d8 : (t < (l.length : Int)) = True := eq_true t1
      have hq1 : wrap64 ((q : Int) + 1) = ((q + 1 : Nat) : Int) := by rw [w64 (by omega) (by omega)]; rfl
      have HQ1 := Aside0.mk hq1
      clear hpc hi5 tv hfd hel hsz hS hq1 hl30 t0 t1 o0 o1 hl5 HS
      replace x0 := (HB.out.cell (World.block_lt_of_cell? w _ x0)).trans x0
      replace x1 := (HB.out.cell (World.block_lt_of_cell? w _ x1)).trans x1
      replace x2 := (HB.out.cell (World.block_lt_of_cell? w _ x2)).trans x2
      replace x3 := (HB.out.cell (World.block_lt_of_cell? w _ x3)).trans x3
      replace x4 := (HB.out.cell (World.block_lt_of_cell? w _ x4)).trans x4
      replace x5 := (HB.out.cell (World.block_lt_of_cell? w _ x5)).trans x5
      by_cases k2 : x.f0 ≤ 2
      case pos =>
        obtain ⟨rfl, rfl, rfl, rfl⟩ : 0 = r1 ∧ 0 = r2 ∧ 8 = r3 ∧ (q : Int) = r4 := by have h := HS1.out; rw [if_neg (by omega), if_neg (by omega)] at h; simpa using h
        have k2b : decide (x.f0 ≤ 2) = true := decide_eq_true k2
        clear k2
        go_wp2_with (first
                  | ((with_reducible refine gate_dst (N := 11) rfl ?_); refine box_event ?hg (N := 11) ?hd (cs := #[.int .i64 0, .string (⟨#[]⟩ : ByteArray), .int .i64 0, .int .i64 0, .int .i64 0, .slice none 0 0]) (t := 32) ?hr ?_; (case hd => rfl); (case hg => rfl); (case hr => first | (go_simp; done) | (go_simp; rfl)); intro gx hgb W7 hbx hb7; have hz0 := (blk_cell hbx 0).trans rfl; have hy0 := blk_frozen hbx 0; have hz1 := (blk_cell hbx 1).trans rfl; have hy1 := blk_frozen hbx 1; have hz2 := (blk_cell hbx 2).trans rfl; have hy2 := blk_frozen hbx 2; have hz3 := (blk_cell hbx 3).trans rfl; have hy3 := blk_frozen hbx 3; have hz4 := (blk_cell hbx 4).trans rfl; have hy4 := blk_frozen hbx 4; have hz5 := (blk_cell hbx 5).trans rfl; have hy5 := blk_frozen hbx 5; have HX := Aside0.mk (And.intro hgb (And.intro hbx hb7)); clear hbx hb7 hgb)
                  | ((with_reducible refine gate_store (t := 32) (p := 11) rfl ?_); refine store_event (t := 32) (p := 11) (v := .tmp 21) (w1 := ((((((W7.setCell ⟨gx, 0, none⟩ (.int .i64 x.f0)).setCell ⟨gx, 1, none⟩ (.string x.f1)).setCell ⟨gx, 2, none⟩ (.int .i64 x.f2)).setCell ⟨gx, 3, none⟩ (.int .i64 x.f3)).setCell ⟨gx, 4, none⟩ (.int .i64 x.f4)).setCell ⟨gx, 5, none⟩ (.slice A5 x.f5.length c5))) ?hg ?ho ?hn ?hr ?_; (case ho => rfl); (case hg => rfl); (case hn => rfl); (case hr => first | (go_simp; done) | (go_simp; rfl)); intro W8 hw8; have BX8 := Aside0.mk (show W8.heap[gx]? = some (.cells #[.int .i64 x.f0, .string x.f1, .int .i64 x.f2, .int .i64 x.f3, .int .i64 x.f4, .slice A5 x.f5.length c5] 32 (0, 0)) from by rw [hw8]; exact boxed6 HX.out.2.1); have HB1 := Aside0.mk (show Below wr.heap.size wr W8 from by rw [hw8]; (repeat refine below_set ?_ (Nat.le_of_eq HX.out.1.symm)); exact HX.out.2.2); have HB8 := Aside0.mk (below_step HB.out HB1.out); have B8 := Aside0.mk (blk_below B0.out HB1.out); clear hw8 HX hz0 hy0 hz1 hy1 hz2 hy2 hz3 hy3 hz4 hy4 hz5 hy5 x0 x1 x2 x3 x4 x5; have X0 := (blk_cell BX8.out 0).trans rfl; have X1 := (blk_cell BX8.out 1).trans rfl; have X2 := (blk_cell BX8.out 2).trans rfl; have X3 := (blk_cell BX8.out 3).trans rfl; have X4 := (blk_cell BX8.out 4).trans rfl; have X5 := (blk_cell BX8.out 5).trans rfl; have p8 := (blk_cell B8.out 0).trans rfl; have q8 := (blk_cell B8.out 1).trans rfl; have r8 := blk_frozen B8.out 0; have s8 := blk_frozen B8.out 1; have hp8 := (HB8.out.cell (World.block_lt_of_cell? w _ HPC.out)).trans HPC.out)
                  | (go_at_call 16; refine (linkhouseref1_At.calls 8 (q : Int) 8 (q : Int) _ (by simp [linkhouseref1_At.f])).mono ?_; rintro e W9 ⟨rfl, hb9⟩; have HB9 := Aside0.mk (below_step (by first | exact HB8.out | exact pw_below_drewN HB8.out _) hb9); have B9 := Aside0.mk (blk_below (by first | exact B8.out | exact blk_drewN B8.out _) hb9); clear hb9; have p9 := (blk_cell B9.out 0).trans rfl; have q9 := (blk_cell B9.out 1).trans rfl; have r9 := blk_frozen B9.out 0; have s9 := blk_frozen B9.out 1))
        repeat (go_quiet (fail); try go_wp2)
        refine bodyPost_ret (results_list (rs := [.tmp 6, .tmp 7, .cell 8 25]) rfl (by simp) (.tmp (.tmp (.cell g8 25 #[.int .i64 8, .int .i64 (q : Int)] (0, 0) _ rfl (boxed2 B9.out) Try.underlying25 rfl (by kernel_rfl) .nil)))) rfl ?_
        exact ⟨rfl, below_set (below_set HB9.out HG.out) HG.out⟩
      have k2b : decide (x.f0 ≤ 2) = false := decide_eq_false k2
      by_cases k3 : x.f0 = 3
      case pos =>
        have k3b : (x.f0 == 3) = true := beq_iff_eq.mpr k3
        have hS := HS1.out
        rw [if_neg (by omega), if_pos k3] at hS
        have hn := HE.out k3
        have hp4 := TV0.out.p3.2.1
        obtain ⟨n1, hn1⟩ : ∃ n, wrap64 (x.f4 - 1) = n := ⟨_, rfl⟩
        have HN1 := Aside0.mk hn1
        have hn2 : n1 = x.f4 - 1 := by rw [← hn1]; exact w64 (by omega) (by omega)
        clear hn1
        obtain ⟨b1, hb1⟩ : ∃ b : Bool, (b = true ↔ (0 ≤ rd p (q : Int) ∧ rd p (q : Int) ≤ n1)) := ⟨decide _, decide_eq_true_iff⟩
        have HI := Aside0.mk (in_ev _ _ _ _ hb1)
        cases b1 with
        | false =>
          have hno : ¬ (0 ≤ rd p (q : Int) ∧ rd p (q : Int) < x.f4) := by intro h; have := hb1.2 ⟨h.1, by omega⟩; simp at this
          obtain ⟨rfl, rfl, rfl, rfl⟩ : 0 = r1 ∧ 0 = r2 ∧ 3 = r3 ∧ (q : Int) = r4 := by rw [if_neg hno] at hS; simpa using hS
          clear hno hS hn hp4 hn2 hb1 k2 k3
          go_wp2_with (first
                      | ((with_reducible refine gate_dst (N := 11) rfl ?_); refine box_event ?hg (N := 11) ?hd (cs := #[.int .i64 0, .string (⟨#[]⟩ : ByteArray), .int .i64 0, .int .i64 0, .int .i64 0, .slice none 0 0]) (t := 32) ?hr ?_; (case hd => rfl); (case hg => rfl); (case hr => first | (go_simp; done) | (go_simp; rfl)); intro gx hgb W7 hbx hb7; have hz0 := (blk_cell hbx 0).trans rfl; have hy0 := blk_frozen hbx 0; have hz1 := (blk_cell hbx 1).trans rfl; have hy1 := blk_frozen hbx 1; have hz2 := (blk_cell hbx 2).trans rfl; have hy2 := blk_frozen hbx 2; have hz3 := (blk_cell hbx 3).trans rfl; have hy3 := blk_frozen hbx 3; have hz4 := (blk_cell hbx 4).trans rfl; have hy4 := blk_frozen hbx 4; have hz5 := (blk_cell hbx 5).trans rfl; have hy5 := blk_frozen hbx 5; have HX := Aside0.mk (And.intro hgb (And.intro hbx hb7)); clear hbx hb7 hgb)
                      | ((with_reducible refine gate_store (t := 32) (p := 11) rfl ?_); refine store_event (t := 32) (p := 11) (v := .tmp 21) (w1 := ((((((W7.setCell ⟨gx, 0, none⟩ (.int .i64 x.f0)).setCell ⟨gx, 1, none⟩ (.string x.f1)).setCell ⟨gx, 2, none⟩ (.int .i64 x.f2)).setCell ⟨gx, 3, none⟩ (.int .i64 x.f3)).setCell ⟨gx, 4, none⟩ (.int .i64 x.f4)).setCell ⟨gx, 5, none⟩ (.slice A5 x.f5.length c5))) ?hg ?ho ?hn ?hr ?_; (case ho => rfl); (case hg => rfl); (case hn => rfl); (case hr => first | (go_simp; done) | (go_simp; rfl)); intro W8 hw8; have BX8 := Aside0.mk (show W8.heap[gx]? = some (.cells #[.int .i64 x.f0, .string x.f1, .int .i64 x.f2, .int .i64 x.f3, .int .i64 x.f4, .slice A5 x.f5.length c5] 32 (0, 0)) from by rw [hw8]; exact boxed6 HX.out.2.1); have HB1 := Aside0.mk (show Below wr.heap.size wr W8 from by rw [hw8]; (repeat refine below_set ?_ (Nat.le_of_eq HX.out.1.symm)); exact HX.out.2.2); have HB8 := Aside0.mk (below_step HB.out HB1.out); have B8 := Aside0.mk (blk_below B0.out HB1.out); clear hw8 HX hz0 hy0 hz1 hy1 hz2 hy2 hz3 hy3 hz4 hy4 hz5 hy5 x0 x1 x2 x3 x4 x5; have X0 := (blk_cell BX8.out 0).trans rfl; have X1 := (blk_cell BX8.out 1).trans rfl; have X2 := (blk_cell BX8.out 2).trans rfl; have X3 := (blk_cell BX8.out 3).trans rfl; have X4 := (blk_cell BX8.out 4).trans rfl; have X5 := (blk_cell BX8.out 5).trans rfl; have p8 := (blk_cell B8.out 0).trans rfl; have q8 := (blk_cell B8.out 1).trans rfl; have r8 := blk_frozen B8.out 0; have s8 := blk_frozen B8.out 1; have hp8 := (HB8.out.cell (World.block_lt_of_cell? w _ HPC.out)).trans HPC.out)
                      | (go_at_call 20; (with_reducible refine (linkhouseref1_In.calls (rd p (q : Int)) 0 (wrap64 (x.f4 - 1)) false _ (by rw [HN1.out]; exact HI.out)).mono ?_); rintro e w' ⟨rfl, ⟨nd, rfl⟩⟩; (try first | exact ⟨rfl, _, World.drewN_drewN _ _ _⟩ | exact ⟨rfl, _, Eq.trans (World.drewN_drewN _ _ _) (congrArg (World.drewN _) (Nat.add_assoc _ _ _))⟩))
                      | (go_at_call 16; refine (linkhouseref1_At.calls 3 (q : Int) 3 (q : Int) _ (by simp [linkhouseref1_At.f])).mono ?_; rintro e W9 ⟨rfl, hb9⟩; have HB9 := Aside0.mk (below_step (by first | exact HB8.out | exact pw_below_drewN HB8.out _) hb9); have B9 := Aside0.mk (blk_below (by first | exact B8.out | exact blk_drewN B8.out _) hb9); clear hb9; have p9 := (blk_cell B9.out 0).trans rfl; have q9 := (blk_cell B9.out 1).trans rfl; have r9 := blk_frozen B9.out 0; have s9 := blk_frozen B9.out 1))
          repeat (go_quiet (first
              | (go_at_call 20; (with_reducible refine (linkhouseref1_In.calls (rd p (q : Int)) 0 (wrap64 (x.f4 - 1)) false _ (by rw [HN1.out]; exact HI.out)).mono ?_); rintro e w' ⟨rfl, ⟨nd, rfl⟩⟩; (try first | exact ⟨rfl, _, World.drewN_drewN _ _ _⟩ | exact ⟨rfl, _, Eq.trans (World.drewN_drewN _ _ _) (congrArg (World.drewN _) (Nat.add_assoc _ _ _))⟩))); go_wp2_with (first
              | (go_at_call 16; refine (linkhouseref1_At.calls 3 (q : Int) 3 (q : Int) _ (by simp [linkhouseref1_At.f])).mono ?_; rintro e W9 ⟨rfl, hb9⟩; have HB9 := Aside0.mk (below_step (by first | exact HB8.out | exact pw_below_drewN HB8.out _) hb9); have B9 := Aside0.mk (blk_below (by first | exact B8.out | exact blk_drewN B8.out _) hb9); clear hb9; have p9 := (blk_cell B9.out 0).trans rfl; have q9 := (blk_cell B9.out 1).trans rfl; have r9 := blk_frozen B9.out 0; have s9 := blk_frozen B9.out 1)))
          refine bodyPost_ret (results_list (rs := [.tmp 6, .tmp 7, .cell 8 25]) rfl (by simp) (.tmp (.tmp (.cell g8 25 #[.int .i64 3, .int .i64 (q : Int)] (0, 0) _ rfl (boxed2 B9.out) Try.underlying25 rfl (by kernel_rfl) .nil)))) rfl ?_
          exact ⟨rfl, below_set (below_set HB9.out HG.out) HG.out⟩
        | true =>
          have hyes := hb1.1 rfl
          obtain ⟨e0, e1, e2, e3⟩ := hn _ hyes.1 (by omega)
          rw [if_pos ⟨hyes.1, by omega⟩] at hS
          have tl := HT.out
          have hz := HV.out.siz e0 (by omega)
          obtain ⟨_, _, _, eA, _, _, y2, _⟩ := at_T32 HC.out x.f3 e0 (by omega)
          cases eA
          have HY := Aside0.mk y2
          have a1 : decide ((0 : Int) ≤ x.f3) = true := decide_eq_true e0
          have a2 : decide (x.f3 < (l.length : Int)) = true := decide_eq_true (by omega)
          have a3 : ((0 : Int) ≤ x.f3) = True := eq_true e0
          have a4 : (x.f3 < (l.length : Int)) = True := eq_true (by omega)
          have HW := Aside0.mk (show wrap64 (o + wrap64 (rd p (q : Int) * (rd_T32 l x.f3).f2)) = o + rd p (q : Int) * sz l x.f3 from by
            rw [show (rd_T32 l x.f3).f2 = sz l x.f3 from rfl, w64 (v := rd p (q : Int) * sz l x.f3) (by have := HSZ.out; omega) (by have := HSZ.out; omega)]
            exact w64 (by have := HSZ.out; omega) (by have := HSZ.out; omega))
          have HTn := Aside0.mk (show 0 ≤ x.f3 ∧ x.f3 < (l.length : Int) ∧ 0 ≤ o + rd p (q : Int) * sz l x.f3 ∧ o + rd p (q : Int) * sz l x.f3 + sz l x.f3 ≤ 1000000 from by have := HSZ.out; omega)
          have HSn := Aside0.mk hS
          clear hS hn hp4 hn2 hb1 k2 k3 hyes e0 e1 e2 e3 tl hz y2
          go_wp2_with (first
                      | ((with_reducible refine gate_dst (N := 11) rfl ?_); refine box_event ?hg (N := 11) ?hd (cs := #[.int .i64 0, .string (⟨#[]⟩ : ByteArray), .int .i64 0, .int .i64 0, .int .i64 0, .slice none 0 0]) (t := 32) ?hr ?_; (case hd => rfl); (case hg => rfl); (case hr => first | (go_simp; done) | (go_simp; rfl)); intro gx hgb W7 hbx hb7; have hz0 := (blk_cell hbx 0).trans rfl; have hy0 := blk_frozen hbx 0; have hz1 := (blk_cell hbx 1).trans rfl; have hy1 := blk_frozen hbx 1; have hz2 := (blk_cell hbx 2).trans rfl; have hy2 := blk_frozen hbx 2; have hz3 := (blk_cell hbx 3).trans rfl; have hy3 := blk_frozen hbx 3; have hz4 := (blk_cell hbx 4).trans rfl; have hy4 := blk_frozen hbx 4; have hz5 := (blk_cell hbx 5).trans rfl; have hy5 := blk_frozen hbx 5; have HX := Aside0.mk (And.intro hgb (And.intro hbx hb7)); clear hbx hb7 hgb)
                      | ((with_reducible refine gate_store (t := 32) (p := 11) rfl ?_); refine store_event (t := 32) (p := 11) (v := .tmp 21) (w1 := ((((((W7.setCell ⟨gx, 0, none⟩ (.int .i64 x.f0)).setCell ⟨gx, 1, none⟩ (.string x.f1)).setCell ⟨gx, 2, none⟩ (.int .i64 x.f2)).setCell ⟨gx, 3, none⟩ (.int .i64 x.f3)).setCell ⟨gx, 4, none⟩ (.int .i64 x.f4)).setCell ⟨gx, 5, none⟩ (.slice A5 x.f5.length c5))) ?hg ?ho ?hn ?hr ?_; (case ho => rfl); (case hg => rfl); (case hn => rfl); (case hr => first | (go_simp; done) | (go_simp; rfl)); intro W8 hw8; have BX8 := Aside0.mk (show W8.heap[gx]? = some (.cells #[.int .i64 x.f0, .string x.f1, .int .i64 x.f2, .int .i64 x.f3, .int .i64 x.f4, .slice A5 x.f5.length c5] 32 (0, 0)) from by rw [hw8]; exact boxed6 HX.out.2.1); have HB1 := Aside0.mk (show Below wr.heap.size wr W8 from by rw [hw8]; (repeat refine below_set ?_ (Nat.le_of_eq HX.out.1.symm)); exact HX.out.2.2); have HB8 := Aside0.mk (below_step HB.out HB1.out); have B8 := Aside0.mk (blk_below B0.out HB1.out); clear hw8 HX hz0 hy0 hz1 hy1 hz2 hy2 hz3 hy3 hz4 hy4 hz5 hy5 x0 x1 x2 x3 x4 x5; have X0 := (blk_cell BX8.out 0).trans rfl; have X1 := (blk_cell BX8.out 1).trans rfl; have X2 := (blk_cell BX8.out 2).trans rfl; have X3 := (blk_cell BX8.out 3).trans rfl; have X4 := (blk_cell BX8.out 4).trans rfl; have X5 := (blk_cell BX8.out 5).trans rfl; have p8 := (blk_cell B8.out 0).trans rfl; have q8 := (blk_cell B8.out 1).trans rfl; have r8 := blk_frozen B8.out 0; have s8 := blk_frozen B8.out 1; have hp8 := (HB8.out.cell (World.block_lt_of_cell? w _ HPC.out)).trans HPC.out; have y8 := (HB8.out.cell (World.block_lt_of_cell? w _ HY.out)).trans HY.out)
                      | (go_at_call 20; (with_reducible refine (linkhouseref1_In.calls (rd p (q : Int)) 0 (wrap64 (x.f4 - 1)) true _ (by rw [HN1.out]; exact HI.out)).mono ?_); rintro e w' ⟨rfl, ⟨nd, rfl⟩⟩; (try first | exact ⟨rfl, _, World.drewN_drewN _ _ _⟩ | exact ⟨rfl, _, Eq.trans (World.drewN_drewN _ _ _) (congrArg (World.drewN _) (Nat.add_assoc _ _ _))⟩)))
          repeat (go_quiet (first
              | (go_at_call 20; (with_reducible refine (linkhouseref1_In.calls (rd p (q : Int)) 0 (wrap64 (x.f4 - 1)) true _ (by rw [HN1.out]; exact HI.out)).mono ?_); rintro e w' ⟨rfl, ⟨nd, rfl⟩⟩; (try first | exact ⟨rfl, _, World.drewN_drewN _ _ _⟩ | exact ⟨rfl, _, Eq.trans (World.drewN_drewN _ _ _) (congrArg (World.drewN _) (Nat.add_assoc _ _ _))⟩))); try go_wp2)
          repeat (go_quiet (fail); try go_wp2)
          go_roundg dd
          case measure => omega
          case rel => exact ⟨q + 1, _, _, rfl, by rw [HW.out], by rw [HQ1.out], ⟨by have := HQ.out; omega⟩, HTn, ⟨by have h := HSn.out; rwa [Int.natCast_add] ⟩, by first | exact B8 | exact ⟨blk_drewN B8.out _⟩, by first | exact HB8 | exact ⟨pw_below_drewN HB8.out _⟩⟩
      have k3b : (x.f0 == 3) = false := beq_eq_false_iff_ne.mpr k3
      have k4 : x.f0 = 4 := by have := TV0.out.k; unfold P1 at this; omega
      have hS := HS1.out
      rw [if_pos k4] at hS
      have h8 := TV0.out.n8
      obtain ⟨n1, hn1⟩ : ∃ n, wrap64 ((x.f5.length : Int) - 1) = n := ⟨_, rfl⟩
      have HN1 := Aside0.mk hn1
      have hn2 : n1 = (x.f5.length : Int) - 1 := by rw [← hn1]; exact w64 (by omega) (by omega)
      clear hn1
      obtain ⟨b1, hb1⟩ : ∃ b : Bool, (b = true ↔ (0 ≤ rd p (q : Int) ∧ rd p (q : Int) ≤ n1)) := ⟨decide _, decide_eq_true_iff⟩
      have HI := Aside0.mk (in_ev _ _ _ _ hb1)
      cases b1 with
      | false =>
        have hno : ¬ (0 ≤ rd p (q : Int) ∧ rd p (q : Int) < (x.f5.length : Int)) := by intro h; have := hb1.2 ⟨h.1, by omega⟩; simp at this
        obtain ⟨rfl, rfl, rfl, rfl⟩ : 0 = r1 ∧ 0 = r2 ∧ 3 = r3 ∧ (q : Int) = r4 := by rw [if_neg hno] at hS; simpa using hS
        clear hno hS h8 hn2 hb1 k2 k3 k4
        go_wp2_with (first
                  | ((with_reducible refine gate_dst (N := 11) rfl ?_); refine box_event ?hg (N := 11) ?hd (cs := #[.int .i64 0, .string (⟨#[]⟩ : ByteArray), .int .i64 0, .int .i64 0, .int .i64 0, .slice none 0 0]) (t := 32) ?hr ?_; (case hd => rfl); (case hg => rfl); (case hr => first | (go_simp; done) | (go_simp; rfl)); intro gx hgb W7 hbx hb7; have hz0 := (blk_cell hbx 0).trans rfl; have hy0 := blk_frozen hbx 0; have hz1 := (blk_cell hbx 1).trans rfl; have hy1 := blk_frozen hbx 1; have hz2 := (blk_cell hbx 2).trans rfl; have hy2 := blk_frozen hbx 2; have hz3 := (blk_cell hbx 3).trans rfl; have hy3 := blk_frozen hbx 3; have hz4 := (blk_cell hbx 4).trans rfl; have hy4 := blk_frozen hbx 4; have hz5 := (blk_cell hbx 5).trans rfl; have hy5 := blk_frozen hbx 5; have HX := Aside0.mk (And.intro hgb (And.intro hbx hb7)); clear hbx hb7 hgb)
                  | ((with_reducible refine gate_store (t := 32) (p := 11) rfl ?_); refine store_event (t := 32) (p := 11) (v := .tmp 21) (w1 := ((((((W7.setCell ⟨gx, 0, none⟩ (.int .i64 x.f0)).setCell ⟨gx, 1, none⟩ (.string x.f1)).setCell ⟨gx, 2, none⟩ (.int .i64 x.f2)).setCell ⟨gx, 3, none⟩ (.int .i64 x.f3)).setCell ⟨gx, 4, none⟩ (.int .i64 x.f4)).setCell ⟨gx, 5, none⟩ (.slice A5 x.f5.length c5))) ?hg ?ho ?hn ?hr ?_; (case ho => rfl); (case hg => rfl); (case hn => rfl); (case hr => first | (go_simp; done) | (go_simp; rfl)); intro W8 hw8; have BX8 := Aside0.mk (show W8.heap[gx]? = some (.cells #[.int .i64 x.f0, .string x.f1, .int .i64 x.f2, .int .i64 x.f3, .int .i64 x.f4, .slice A5 x.f5.length c5] 32 (0, 0)) from by rw [hw8]; exact boxed6 HX.out.2.1); have HB1 := Aside0.mk (show Below wr.heap.size wr W8 from by rw [hw8]; (repeat refine below_set ?_ (Nat.le_of_eq HX.out.1.symm)); exact HX.out.2.2); have HB8 := Aside0.mk (below_step HB.out HB1.out); have B8 := Aside0.mk (blk_below B0.out HB1.out); clear hw8 HX hz0 hy0 hz1 hy1 hz2 hy2 hz3 hy3 hz4 hy4 hz5 hy5 x0 x1 x2 x3 x4 x5; have X0 := (blk_cell BX8.out 0).trans rfl; have X1 := (blk_cell BX8.out 1).trans rfl; have X2 := (blk_cell BX8.out 2).trans rfl; have X3 := (blk_cell BX8.out 3).trans rfl; have X4 := (blk_cell BX8.out 4).trans rfl; have X5 := (blk_cell BX8.out 5).trans rfl; have p8 := (blk_cell B8.out 0).trans rfl; have q8 := (blk_cell B8.out 1).trans rfl; have r8 := blk_frozen B8.out 0; have s8 := blk_frozen B8.out 1; have hp8 := (HB8.out.cell (World.block_lt_of_cell? w _ HPC.out)).trans HPC.out)
                  | (go_at_call 20; (with_reducible refine (linkhouseref1_In.calls (rd p (q : Int)) 0 (wrap64 ((x.f5.length : Int) - 1)) false _ (by rw [HN1.out]; exact HI.out)).mono ?_); rintro e w' ⟨rfl, ⟨nd, rfl⟩⟩; (try first | exact ⟨rfl, _, World.drewN_drewN _ _ _⟩ | exact ⟨rfl, _, Eq.trans (World.drewN_drewN _ _ _) (congrArg (World.drewN _) (Nat.add_assoc _ _ _))⟩))
                  | (go_at_call 16; refine (linkhouseref1_At.calls 3 (q : Int) 3 (q : Int) _ (by simp [linkhouseref1_At.f])).mono ?_; rintro e W9 ⟨rfl, hb9⟩; have HB9 := Aside0.mk (below_step (by first | exact HB8.out | exact pw_below_drewN HB8.out _) hb9); have B9 := Aside0.mk (blk_below (by first | exact B8.out | exact blk_drewN B8.out _) hb9); clear hb9; have p9 := (blk_cell B9.out 0).trans rfl; have q9 := (blk_cell B9.out 1).trans rfl; have r9 := blk_frozen B9.out 0; have s9 := blk_frozen B9.out 1))
        repeat (go_quiet (first
            | (go_at_call 20; (with_reducible refine (linkhouseref1_In.calls (rd p (q : Int)) 0 (wrap64 ((x.f5.length : Int) - 1)) false _ (by rw [HN1.out]; exact HI.out)).mono ?_); rintro e w' ⟨rfl, ⟨nd, rfl⟩⟩; (try first | exact ⟨rfl, _, World.drewN_drewN _ _ _⟩ | exact ⟨rfl, _, Eq.trans (World.drewN_drewN _ _ _) (congrArg (World.drewN _) (Nat.add_assoc _ _ _))⟩))); go_wp2_with (first
            | (go_at_call 16; refine (linkhouseref1_At.calls 3 (q : Int) 3 (q : Int) _ (by simp [linkhouseref1_At.f])).mono ?_; rintro e W9 ⟨rfl, hb9⟩; have HB9 := Aside0.mk (below_step (by first | exact HB8.out | exact pw_below_drewN HB8.out _) hb9); have B9 := Aside0.mk (blk_below (by first | exact B8.out | exact blk_drewN B8.out _) hb9); clear hb9; have p9 := (blk_cell B9.out 0).trans rfl; have q9 := (blk_cell B9.out 1).trans rfl; have r9 := blk_frozen B9.out 0; have s9 := blk_frozen B9.out 1)))
        refine bodyPost_ret (results_list (rs := [.tmp 6, .tmp 7, .cell 8 25]) rfl (by simp) (.tmp (.tmp (.cell g8 25 #[.int .i64 3, .int .i64 (q : Int)] (0, 0) _ rfl (boxed2 B9.out) Try.underlying25 rfl (by kernel_rfl) .nil)))) rfl ?_
        exact ⟨rfl, below_set (below_set HB9.out HG.out) HG.out⟩
      | true =>
        have hyes := hb1.1 rfl
        obtain ⟨e0, e1, e2, e3⟩ := HF.out _ hyes.1 (by omega)
        rw [if_pos ⟨hyes.1, by omega⟩] at hS
        have tl := HT.out
        have hz := HV.out.siz e0 (by omega)
        obtain ⟨fd5, eF, y0, y1, y2⟩ := at_T55 HI5.out (rd p (q : Int)) hyes.1 (by omega)
        subst eF
        have HY := Aside0.mk (And.intro y1 y2)
        have a1 : decide ((0 : Int) ≤ rd p (q : Int)) = true := decide_eq_true hyes.1
        have a2 : decide (rd p (q : Int) < (x.f5.length : Int)) = true := decide_eq_true (by omega)
        have a3 : ((0 : Int) ≤ rd p (q : Int)) = True := eq_true hyes.1
        have a4 : (rd p (q : Int) < (x.f5.length : Int)) = True := eq_true (by omega)
        have HW := Aside0.mk (show wrap64 (o + (rd_T55 x.f5 (rd p (q : Int))).f2) = o + (rd_T55 x.f5 (rd p (q : Int))).f2 from w64 (by have := HSZ.out; omega) (by have := HSZ.out; omega))
        have HTn := Aside0.mk (show 0 ≤ (rd_T55 x.f5 (rd p (q : Int))).f1 ∧ (rd_T55 x.f5 (rd p (q : Int))).f1 < (l.length : Int) ∧ 0 ≤ o + (rd_T55 x.f5 (rd p (q : Int))).f2 ∧ o + (rd_T55 x.f5 (rd p (q : Int))).f2 + sz l (rd_T55 x.f5 (rd p (q : Int))).f1 ≤ 1000000 from by have := HSZ.out; omega)
        have HSn := Aside0.mk hS
        clear hS h8 hn2 hb1 k2 k3 k4 hyes e0 e1 e2 e3 tl hz y0 y1 y2
        go_wp2_with (first
                  | ((with_reducible refine gate_dst (N := 11) rfl ?_); refine box_event ?hg (N := 11) ?hd (cs := #[.int .i64 0, .string (⟨#[]⟩ : ByteArray), .int .i64 0, .int .i64 0, .int .i64 0, .slice none 0 0]) (t := 32) ?hr ?_; (case hd => rfl); (case hg => rfl); (case hr => first | (go_simp; done) | (go_simp; rfl)); intro gx hgb W7 hbx hb7; have hz0 := (blk_cell hbx 0).trans rfl; have hy0 := blk_frozen hbx 0; have hz1 := (blk_cell hbx 1).trans rfl; have hy1 := blk_frozen hbx 1; have hz2 := (blk_cell hbx 2).trans rfl; have hy2 := blk_frozen hbx 2; have hz3 := (blk_cell hbx 3).trans rfl; have hy3 := blk_frozen hbx 3; have hz4 := (blk_cell hbx 4).trans rfl; have hy4 := blk_frozen hbx 4; have hz5 := (blk_cell hbx 5).trans rfl; have hy5 := blk_frozen hbx 5; have HX := Aside0.mk (And.intro hgb (And.intro hbx hb7)); clear hbx hb7 hgb)
                  | ((with_reducible refine gate_store (t := 32) (p := 11) rfl ?_); refine store_event (t := 32) (p := 11) (v := .tmp 21) (w1 := ((((((W7.setCell ⟨gx, 0, none⟩ (.int .i64 x.f0)).setCell ⟨gx, 1, none⟩ (.string x.f1)).setCell ⟨gx, 2, none⟩ (.int .i64 x.f2)).setCell ⟨gx, 3, none⟩ (.int .i64 x.f3)).setCell ⟨gx, 4, none⟩ (.int .i64 x.f4)).setCell ⟨gx, 5, none⟩ (.slice (some fd5) x.f5.length c5))) ?hg ?ho ?hn ?hr ?_; (case ho => rfl); (case hg => rfl); (case hn => rfl); (case hr => first | (go_simp; done) | (go_simp; rfl)); intro W8 hw8; have BX8 := Aside0.mk (show W8.heap[gx]? = some (.cells #[.int .i64 x.f0, .string x.f1, .int .i64 x.f2, .int .i64 x.f3, .int .i64 x.f4, .slice (some fd5) x.f5.length c5] 32 (0, 0)) from by rw [hw8]; exact boxed6 HX.out.2.1); have HB1 := Aside0.mk (show Below wr.heap.size wr W8 from by rw [hw8]; (repeat refine below_set ?_ (Nat.le_of_eq HX.out.1.symm)); exact HX.out.2.2); have HB8 := Aside0.mk (below_step HB.out HB1.out); have B8 := Aside0.mk (blk_below B0.out HB1.out); clear hw8 HX hz0 hy0 hz1 hy1 hz2 hy2 hz3 hy3 hz4 hy4 hz5 hy5 x0 x1 x2 x3 x4 x5; have X0 := (blk_cell BX8.out 0).trans rfl; have X1 := (blk_cell BX8.out 1).trans rfl; have X2 := (blk_cell BX8.out 2).trans rfl; have X3 := (blk_cell BX8.out 3).trans rfl; have X4 := (blk_cell BX8.out 4).trans rfl; have X5 := (blk_cell BX8.out 5).trans rfl; have p8 := (blk_cell B8.out 0).trans rfl; have q8 := (blk_cell B8.out 1).trans rfl; have r8 := blk_frozen B8.out 0; have s8 := blk_frozen B8.out 1; have hp8 := (HB8.out.cell (World.block_lt_of_cell? w _ HPC.out)).trans HPC.out; have y8 := (HB8.out.cell (World.block_lt_of_cell? w _ HY.out.1)).trans HY.out.1; have z8 := (HB8.out.cell (World.block_lt_of_cell? w _ HY.out.2)).trans HY.out.2)
                  | (go_at_call 20; (with_reducible refine (linkhouseref1_In.calls (rd p (q : Int)) 0 (wrap64 ((x.f5.length : Int) - 1)) true _ (by rw [HN1.out]; exact HI.out)).mono ?_); rintro e w' ⟨rfl, ⟨nd, rfl⟩⟩; (try first | exact ⟨rfl, _, World.drewN_drewN _ _ _⟩ | exact ⟨rfl, _, Eq.trans (World.drewN_drewN _ _ _) (congrArg (World.drewN _) (Nat.add_assoc _ _ _))⟩)))
        repeat (go_quiet (first
            | (go_at_call 20; (with_reducible refine (linkhouseref1_In.calls (rd p (q : Int)) 0 (wrap64 ((x.f5.length : Int) - 1)) true _ (by rw [HN1.out]; exact HI.out)).mono ?_); rintro e w' ⟨rfl, ⟨nd, rfl⟩⟩; (try first | exact ⟨rfl, _, World.drewN_drewN _ _ _⟩ | exact ⟨rfl, _, Eq.trans (World.drewN_drewN _ _ _) (congrArg (World.drewN _) (Nat.add_assoc _ _ _))⟩))); try go_wp2)
        repeat (go_quiet (fail); try go_wp2)
        go_roundg dd
        case measure => omega
        case rel => exact ⟨q + 1, _, _, rfl, by rw [HW.out], by rw [HQ1.out], ⟨by have := HQ.out; omega⟩, HTn, ⟨by have h := HSn.out; rwa [Int.natCast_add] ⟩, by first | exact B8 | exact ⟨blk_drewN B8.out _⟩, by first | exact HB8 | exact ⟨pw_below_drewN HB8.out _⟩⟩
end Go.Proofs.Ytpmlcmdojmdmhaa.PR
