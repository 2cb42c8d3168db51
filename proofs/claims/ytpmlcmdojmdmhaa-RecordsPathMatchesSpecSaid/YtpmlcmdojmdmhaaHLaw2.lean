/- What the law RecordsPathMatchesSpec returns: true, at every list of types, every number and every path. -/
import Derived.Test.YtpmlcmdojmdmhaaHEx
import Derived.Test.YtpmlcmdojmdmhaaHFol
set_option linter.unusedVariables false
set_option linter.unusedSimpArgs false
set_option maxRecDepth 100000
namespace Go.Proofs.Ytpmlcmdojmdmhaa.PR
open Go.RowKit Go.Proofs.YtpmlcmdojmdmhaaW.PrintWords Go.Proofs.YtpmlcmdojmdmhaaW.PrintLast Go.Proofs.YtpmlcmdojmdmhaaW.PrintMore
attribute [local go_sem high] eqA25
set_option maxHeartbeats 1000000 in
theorem law2 (w : World) (A : Option Addr) (c : Nat) (l : List S32) (hC : Kd.C k32 w A l.length l) (hc : l.length ≤ c) (hw : WfL l) (t : Int) (_ : I64 t) (B : Option Addr) (d : Nat) (p : List Int) (hP : Kd.C (Kd.int .i64) w B p.length p) (hd : p.length ≤ d) (_ : ∀ x ∈ p, I64 x) :
    Calls Try.prog 4 #[.slice A l.length c, .int .i64 t, .slice B p.length d] w fun e w' => e = .returned (.bool true) ∧ Below w.heap.size w w' := by
  obtain ⟨G1, G2, hG⟩ : ∃ a b, fault2 l t = (a, b) := ⟨_, _, rfl⟩
  obtain ⟨R1, R2, R3, R4, hR⟩ : ∃ a b c d, path l t p = (a, b, c, d) := ⟨_, _, _, _, rfl⟩
  obtain ⟨kn, hn⟩ := (typeFault_ev hw t).rounds
  rw [hG] at hn
  have HT := Aside0.mk hn
  have HN := Aside0.mk hR
  have HW := Aside0.mk hw
  have HCC := Aside0.mk hC
  have HCL := Aside0.mk hc
  have HPP := Aside0.mk hP
  have HPL := Aside0.mk hd
  clear hn hC hc hP hd
  have HE := Aside0.mk (Lx.start w)
  by_cases h0 : G1 = 0
  · subst h0
    have hz : (fault2 l t).1 = 0 := by rw [hG]
    have e2 := fault2_snd hz
    rw [hG] at e2
    obtain rfl : G2 = 0 := (Prod.mk.inj e2).2
    obtain ⟨hv, ht0, ht1⟩ := fault2_zero.1 hz
    unfold path at hR
    rw [if_pos hz] at hR
    by_cases hl : p.length > 30
    · rw [if_pos hl] at hR
      obtain ⟨rfl, rfl, rfl, rfl⟩ : 0 = R1 ∧ 0 = R2 ∧ 2 = R3 ∧ -3 = R4 := by simpa using hR
      have d1 : decide (30 < (p.length : Int)) = true := decide_eq_true (by omega)
      have d2 : decide (30 < p.length) = true := decide_eq_true hl
      clear hR hG e2 hz hv ht0 ht1 hl
      go_enter Try.func4, Try.ntmps4
      go_wp2_with (first
        | (go_at_call 10; refine (ex_calls _).mono ?_; rintro e W2 ⟨rfl, hb⟩; have n_ := Aside0.mk (HE.out.step hb); clear HE hb; have HE := n_; clear n_)
        | (go_at_call 15; refine (path_calls _ _ _ l (Kd.C_below HCC.out HE.out.bel) HCL.out HW.out t _ _ p (Kd.C_below HPP.out HE.out.bel) HPL.out 0 0 2 (-3) HN.out).mono ?_; rintro e W2 ⟨rfl, hb⟩; have n_ := Aside0.mk (HE.out.step hb); clear HE hb; have HE := n_; clear n_)
        | (go_at_call 14; refine (linkhouseref2_TypeFault.calls kn _ _ l t 0 0 _ (Kd.C_below HCC.out HE.out.bel) HCL.out HT.out).mono ?_; rintro e W2 ⟨rfl, hb⟩; have n_ := Aside0.mk (HE.out.step hb); clear HE hb; have HE := n_; clear n_)
        | (go_at_call 16; refine (linkhouseref1_At.calls 2 (-3) 2 (-3) _ (by simp [linkhouseref1_At.f])).mono ?_; rintro e W2 ⟨rfl, hb⟩; have n_ := Aside0.mk (HE.out.step hb); clear HE hb; have HE := n_; clear n_; have p9 := (blk_cell (HE.out.box (g9, 2, -3) (by simp)) 0).trans rfl; have q9 := (blk_cell (HE.out.box (g9, 2, -3) (by simp)) 1).trans rfl; have p10 := (blk_cell (HE.out.box (g10, 0, 0) (by simp)) 0).trans rfl; have q10 := (blk_cell (HE.out.box (g10, 0, 0) (by simp)) 1).trans rfl; have r10 := blk_frozen (HE.out.box (g10, 0, 0) (by simp)) 0; have s10 := blk_frozen (HE.out.box (g10, 0, 0) (by simp)) 1)
        | ((with_reducible refine gate_dst (N := 9) rfl ?_); refine box_event ?hg (N := 9) ?hd (cs := #[.int .i64 0, .int .i64 0]) (t := 25) ?hr ?_; (case hd => rfl); (case hg => rfl); (case hr => first | (go_simp; done) | (go_simp; rfl)); intro g9 hg W7 hbx hb7; have hz0 := (blk_cell hbx 0).trans rfl; have hz1 := (blk_cell hbx 1).trans rfl; have hy0 := blk_frozen hbx 0; have hy1 := blk_frozen hbx 1; have HX := Aside0.mk (And.intro hg (And.intro hbx hb7)); clear hbx hb7 hg)
        | ((with_reducible refine gate_store (t := 25) (p := 9) rfl ?_); refine store_event (t := 25) (p := 9) (v := .tmp 22) (w1 := ((W7.setCell ⟨g9, 0, none⟩ (.int .i64 (2))).setCell ⟨g9, 1, none⟩ (.int .i64 (-3)))) ?hg ?ho ?hn ?hr ?_; (case ho => rfl); (case hg => rfl); (case hn => rfl); (case hr => first | (go_simp; done) | (go_simp; rfl)); intro W8 hw8; have n_ := Aside0.mk (HE.out.boxed HX.out.1 HX.out.2.1 HX.out.2.2 hw8); clear HE HX hw8 hz0 hz1 hy0 hy1; have HE := n_; clear n_)
        | ((with_reducible refine gate_dst (N := 10) rfl ?_); refine box_event ?hg (N := 10) ?hd (cs := #[.int .i64 0, .int .i64 0]) (t := 25) ?hr ?_; (case hd => rfl); (case hg => rfl); (case hr => first | (go_simp; done) | (go_simp; rfl)); intro g10 hg W7 hbx hb7; have hz0 := (blk_cell hbx 0).trans rfl; have hz1 := (blk_cell hbx 1).trans rfl; have hy0 := blk_frozen hbx 0; have hy1 := blk_frozen hbx 1; have HX := Aside0.mk (And.intro hg (And.intro hbx hb7)); clear hbx hb7 hg; have HG10 := Aside0.mk (show w.heap.size ≤ g10 from by have h1 := HE.out.bel.size; have h2 := HX.out.1; omega); have N9 : g9 ≠ g10 := (by have h1 := blk_lt (HE.out.box (g9, 2, -3) (by simp)); have h2 := HX.out.1; omega))
        | ((with_reducible refine gate_store (t := 25) (p := 10) rfl ?_); refine store_event (t := 25) (p := 10) (v := .tmp 25) (w1 := ((W7.setCell ⟨g10, 0, none⟩ (.int .i64 (0))).setCell ⟨g10, 1, none⟩ (.int .i64 (0)))) ?hg ?ho ?hn ?hr ?_; (case ho => rfl); (case hg => rfl); (case hn => rfl); (case hr => first | (go_simp; done) | (go_simp; rfl)); intro W8 hw8; have n_ := Aside0.mk (HE.out.boxed HX.out.1 HX.out.2.1 HX.out.2.2 hw8); clear HE HX hw8 hz0 hz1 hy0 hy1; have HE := n_; clear n_; have p9 := (blk_cell (HE.out.box (g9, 2, -3) (by simp)) 0).trans rfl; have q9 := (blk_cell (HE.out.box (g9, 2, -3) (by simp)) 1).trans rfl; have p10 := (blk_cell (HE.out.box (g10, 0, 0) (by simp)) 0).trans rfl; have q10 := (blk_cell (HE.out.box (g10, 0, 0) (by simp)) 1).trans rfl; have r10 := blk_frozen (HE.out.box (g10, 0, 0) (by simp)) 0; have s10 := blk_frozen (HE.out.box (g10, 0, 0) (by simp)) 1))
      go_ret
      exact ⟨rfl, below_set (below_set HE.out.bel HG10.out) HG10.out⟩
    · rw [if_neg hl] at hR
      have HV := Aside0.mk (And.intro hv (And.intro ht0 (And.intro ht1 (show p.length ≤ 30 from by omega))))
      have HR := Aside0.mk hR
      have d1 : decide (30 < (p.length : Int)) = false := decide_eq_false (by omega)
      have d2 : decide (30 < p.length) = false := decide_eq_false hl
      clear hR hG e2 hz hv ht0 ht1 hl
      go_enter Try.func4, Try.ntmps4
      go_wp2_with (first
        | (go_at_call 10; refine (ex_calls _).mono ?_; rintro e W2 ⟨rfl, hb⟩; have n_ := Aside0.mk (HE.out.step hb); clear HE hb; have HE := n_; clear n_)
        | (go_at_call 15; refine (path_calls _ _ _ l (Kd.C_below HCC.out HE.out.bel) HCL.out HW.out t _ _ p (Kd.C_below HPP.out HE.out.bel) HPL.out R1 R2 R3 R4 HN.out).mono ?_; rintro e W2 ⟨rfl, hb⟩; have n_ := Aside0.mk (HE.out.step hb); clear HE hb; have HE := n_; clear n_)
        | (go_at_call 14; refine (linkhouseref2_TypeFault.calls kn _ _ l t 0 0 _ (Kd.C_below HCC.out HE.out.bel) HCL.out HT.out).mono ?_; rintro e W2 ⟨rfl, hb⟩; have n_ := Aside0.mk (HE.out.step hb); clear HE hb; have HE := n_; clear n_)
        | (go_at_call 17; refine (followed_calls _ _ _ l (Kd.C_below HCC.out HE.out.bel) HCL.out HV.out.1 t HV.out.2.1 HV.out.2.2.1 _ _ p (Kd.C_below HPP.out HE.out.bel) HPL.out HV.out.2.2.2 R1 R2 R3 R4 HR.out).mono ?_; rintro e W2 ⟨rfl, hb⟩; have n_ := Aside0.mk (HE.out.step hb); clear HE hb; have HE := n_; clear n_; have p9 := (blk_cell (HE.out.box (g9, R3, R4) (by simp)) 0).trans rfl; have q9 := (blk_cell (HE.out.box (g9, R3, R4) (by simp)) 1).trans rfl; have p10 := (blk_cell (HE.out.box (g10, 0, 0) (by simp)) 0).trans rfl; have q10 := (blk_cell (HE.out.box (g10, 0, 0) (by simp)) 1).trans rfl; have r10 := blk_frozen (HE.out.box (g10, 0, 0) (by simp)) 0; have s10 := blk_frozen (HE.out.box (g10, 0, 0) (by simp)) 1)
        | ((with_reducible refine gate_dst (N := 9) rfl ?_); refine box_event ?hg (N := 9) ?hd (cs := #[.int .i64 0, .int .i64 0]) (t := 25) ?hr ?_; (case hd => rfl); (case hg => rfl); (case hr => first | (go_simp; done) | (go_simp; rfl)); intro g9 hg W7 hbx hb7; have hz0 := (blk_cell hbx 0).trans rfl; have hz1 := (blk_cell hbx 1).trans rfl; have hy0 := blk_frozen hbx 0; have hy1 := blk_frozen hbx 1; have HX := Aside0.mk (And.intro hg (And.intro hbx hb7)); clear hbx hb7 hg)
        | ((with_reducible refine gate_store (t := 25) (p := 9) rfl ?_); refine store_event (t := 25) (p := 9) (v := .tmp 22) (w1 := ((W7.setCell ⟨g9, 0, none⟩ (.int .i64 (R3))).setCell ⟨g9, 1, none⟩ (.int .i64 (R4)))) ?hg ?ho ?hn ?hr ?_; (case ho => rfl); (case hg => rfl); (case hn => rfl); (case hr => first | (go_simp; done) | (go_simp; rfl)); intro W8 hw8; have n_ := Aside0.mk (HE.out.boxed HX.out.1 HX.out.2.1 HX.out.2.2 hw8); clear HE HX hw8 hz0 hz1 hy0 hy1; have HE := n_; clear n_)
        | ((with_reducible refine gate_dst (N := 10) rfl ?_); refine box_event ?hg (N := 10) ?hd (cs := #[.int .i64 0, .int .i64 0]) (t := 25) ?hr ?_; (case hd => rfl); (case hg => rfl); (case hr => first | (go_simp; done) | (go_simp; rfl)); intro g10 hg W7 hbx hb7; have hz0 := (blk_cell hbx 0).trans rfl; have hz1 := (blk_cell hbx 1).trans rfl; have hy0 := blk_frozen hbx 0; have hy1 := blk_frozen hbx 1; have HX := Aside0.mk (And.intro hg (And.intro hbx hb7)); clear hbx hb7 hg; have HG10 := Aside0.mk (show w.heap.size ≤ g10 from by have h1 := HE.out.bel.size; have h2 := HX.out.1; omega); have N9 : g9 ≠ g10 := (by have h1 := blk_lt (HE.out.box (g9, R3, R4) (by simp)); have h2 := HX.out.1; omega))
        | ((with_reducible refine gate_store (t := 25) (p := 10) rfl ?_); refine store_event (t := 25) (p := 10) (v := .tmp 25) (w1 := ((W7.setCell ⟨g10, 0, none⟩ (.int .i64 (0))).setCell ⟨g10, 1, none⟩ (.int .i64 (0)))) ?hg ?ho ?hn ?hr ?_; (case ho => rfl); (case hg => rfl); (case hn => rfl); (case hr => first | (go_simp; done) | (go_simp; rfl)); intro W8 hw8; have n_ := Aside0.mk (HE.out.boxed HX.out.1 HX.out.2.1 HX.out.2.2 hw8); clear HE HX hw8 hz0 hz1 hy0 hy1; have HE := n_; clear n_; have p9 := (blk_cell (HE.out.box (g9, R3, R4) (by simp)) 0).trans rfl; have q9 := (blk_cell (HE.out.box (g9, R3, R4) (by simp)) 1).trans rfl; have p10 := (blk_cell (HE.out.box (g10, 0, 0) (by simp)) 0).trans rfl; have q10 := (blk_cell (HE.out.box (g10, 0, 0) (by simp)) 1).trans rfl; have r10 := blk_frozen (HE.out.box (g10, 0, 0) (by simp)) 0; have s10 := blk_frozen (HE.out.box (g10, 0, 0) (by simp)) 1))
      go_ret
      exact ⟨rfl, below_set (below_set HE.out.bel HG10.out) HG10.out⟩
  · unfold path at hR
    rw [if_neg (by rw [hG]; exact h0), hG] at hR
    obtain ⟨rfl, rfl, rfl, rfl⟩ : 0 = R1 ∧ 0 = R2 ∧ G1 = R3 ∧ G2 = R4 := by simpa using hR
    have h0b : (G1 == 0) = false := by simpa using h0
    have h0d : decide (G1 = 0) = false := by simpa using h0
    clear hR hG
    go_enter Try.func4, Try.ntmps4
    go_wp2_with (first
      | (go_at_call 10; refine (ex_calls _).mono ?_; rintro e W2 ⟨rfl, hb⟩; have n_ := Aside0.mk (HE.out.step hb); clear HE hb; have HE := n_; clear n_)
      | (go_at_call 15; refine (path_calls _ _ _ l (Kd.C_below HCC.out HE.out.bel) HCL.out HW.out t _ _ p (Kd.C_below HPP.out HE.out.bel) HPL.out 0 0 G1 G2 HN.out).mono ?_; rintro e W2 ⟨rfl, hb⟩; have n_ := Aside0.mk (HE.out.step hb); clear HE hb; have HE := n_; clear n_)
      | (go_at_call 14; refine (linkhouseref2_TypeFault.calls kn _ _ l t G1 G2 _ (Kd.C_below HCC.out HE.out.bel) HCL.out HT.out).mono ?_; rintro e W2 ⟨rfl, hb⟩; have n_ := Aside0.mk (HE.out.step hb); clear HE hb; have HE := n_; clear n_)
      | ((with_reducible refine gate_dst (N := 9) rfl ?_); refine box_event ?hg (N := 9) ?hd (cs := #[.int .i64 0, .int .i64 0]) (t := 25) ?hr ?_; (case hd => rfl); (case hg => rfl); (case hr => first | (go_simp; done) | (go_simp; rfl)); intro g9 hg W7 hbx hb7; have hz0 := (blk_cell hbx 0).trans rfl; have hz1 := (blk_cell hbx 1).trans rfl; have hy0 := blk_frozen hbx 0; have hy1 := blk_frozen hbx 1; have HX := Aside0.mk (And.intro hg (And.intro hbx hb7)); clear hbx hb7 hg)
      | ((with_reducible refine gate_store (t := 25) (p := 9) rfl ?_); refine store_event (t := 25) (p := 9) (v := .tmp 22) (w1 := ((W7.setCell ⟨g9, 0, none⟩ (.int .i64 (G1))).setCell ⟨g9, 1, none⟩ (.int .i64 (G2)))) ?hg ?ho ?hn ?hr ?_; (case ho => rfl); (case hg => rfl); (case hn => rfl); (case hr => first | (go_simp; done) | (go_simp; rfl)); intro W8 hw8; have n_ := Aside0.mk (HE.out.boxed HX.out.1 HX.out.2.1 HX.out.2.2 hw8); clear HE HX hw8 hz0 hz1 hy0 hy1; have HE := n_; clear n_)
      | ((with_reducible refine gate_dst (N := 10) rfl ?_); refine box_event ?hg (N := 10) ?hd (cs := #[.int .i64 0, .int .i64 0]) (t := 25) ?hr ?_; (case hd => rfl); (case hg => rfl); (case hr => first | (go_simp; done) | (go_simp; rfl)); intro g10 hg W7 hbx hb7; have hz0 := (blk_cell hbx 0).trans rfl; have hz1 := (blk_cell hbx 1).trans rfl; have hy0 := blk_frozen hbx 0; have hy1 := blk_frozen hbx 1; have HX := Aside0.mk (And.intro hg (And.intro hbx hb7)); clear hbx hb7 hg; have HG10 := Aside0.mk (show w.heap.size ≤ g10 from by have h1 := HE.out.bel.size; have h2 := HX.out.1; omega); have N9 : g9 ≠ g10 := (by have h1 := blk_lt (HE.out.box (g9, G1, G2) (by simp)); have h2 := HX.out.1; omega))
      | ((with_reducible refine gate_store (t := 25) (p := 10) rfl ?_); refine store_event (t := 25) (p := 10) (v := .tmp 25) (w1 := ((W7.setCell ⟨g10, 0, none⟩ (.int .i64 (G1))).setCell ⟨g10, 1, none⟩ (.int .i64 (G2)))) ?hg ?ho ?hn ?hr ?_; (case ho => rfl); (case hg => rfl); (case hn => rfl); (case hr => first | (go_simp; done) | (go_simp; rfl)); intro W8 hw8; have n_ := Aside0.mk (HE.out.boxed HX.out.1 HX.out.2.1 HX.out.2.2 hw8); clear HE HX hw8 hz0 hz1 hy0 hy1; have HE := n_; clear n_; have p9 := (blk_cell (HE.out.box (g9, G1, G2) (by simp)) 0).trans rfl; have q9 := (blk_cell (HE.out.box (g9, G1, G2) (by simp)) 1).trans rfl; have p10 := (blk_cell (HE.out.box (g10, G1, G2) (by simp)) 0).trans rfl; have q10 := (blk_cell (HE.out.box (g10, G1, G2) (by simp)) 1).trans rfl; have r10 := blk_frozen (HE.out.box (g10, G1, G2) (by simp)) 0; have s10 := blk_frozen (HE.out.box (g10, G1, G2) (by simp)) 1))
    go_ret
    exact ⟨rfl, HE.out.bel⟩
end Go.Proofs.Ytpmlcmdojmdmhaa.PR
