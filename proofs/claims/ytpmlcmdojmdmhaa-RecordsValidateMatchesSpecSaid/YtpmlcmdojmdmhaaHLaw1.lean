/- What the law RecordsValidateMatchesSpec returns: true, at every list of types and every number. -/
import Derived.Test.YtpmlcmdojmdmhaaHEx
import Derived.Test.YtpmlcmdojmdmhaaHPureB
set_option linter.unusedVariables false
set_option linter.unusedSimpArgs false
set_option maxRecDepth 100000
namespace Go.Proofs.Ytpmlcmdojmdmhaa.PR
open Go.RowKit Go.Proofs.YtpmlcmdojmdmhaaW.PrintWords Go.Proofs.YtpmlcmdojmdmhaaW.PrintLast Go.Proofs.YtpmlcmdojmdmhaaW.PrintMore
attribute [local go_sem high] eqA25
set_option maxHeartbeats 1000000 in
theorem law1 (w : World) (A : Option Addr) (c : Nat) (l : List S32) (hC : Kd.C k32 w A l.length l) (hc : l.length ≤ c) (hw : WfL l) (t : Int) (_ : I64 t) :
    Calls Try.prog 3 #[.slice A l.length c, .int .i64 t] w fun e w' => e = .returned (.bool true) ∧ Below w.heap.size w w' := by
  obtain ⟨F1, F2, hF⟩ : ∃ a b, fault l = (a, b) := ⟨_, _, rfl⟩
  obtain ⟨G1, G2, hG⟩ : ∃ a b, fault2 l t = (a, b) := ⟨_, _, rfl⟩
  obtain ⟨kv, hv⟩ := (validate_ev hw).rounds
  obtain ⟨kt, ht⟩ := (typesFault_ev hw).rounds
  obtain ⟨kn, hn⟩ := (typeFault_ev hw t).rounds
  obtain ⟨ks, hs⟩ := (size_ev hw t).rounds
  rw [hF] at hv ht
  rw [hG] at hn
  have HV := Aside0.mk hv
  have HT := Aside0.mk ht
  have HN := Aside0.mk hn
  have HCC := Aside0.mk hC
  have HCL := Aside0.mk hc
  clear hv ht hn hC hc hF
  have HE := Aside0.mk (Lx.start w)
  by_cases h0 : G1 = 0
  · subst h0
    have hz : (fault2 l t).1 = 0 := by rw [hG]
    have e2 := fault2_snd hz
    rw [hG] at e2
    obtain rfl : G2 = 0 := (Prod.mk.inj e2).2
    obtain ⟨_, ht0, ht1⟩ := fault2_zero.1 hz
    rw [if_pos hz] at hs
    obtain ⟨m, rfl⟩ := Int.eq_ofNat_of_zero_le ht0
    have HS := Aside0.mk (show records_Size.f ks l ((m : Nat) : Int) = some ((rd_T32 l ((m : Nat) : Int)).f2, 0, 0) from hs)
    clear hs hG e2 hz
    obtain ⟨ad, _, _, eA, _, _, hx2, _⟩ := at_T32 HCC.out (m : Int) ht0 ht1
    subst eA
    simp only [Int.toNat_natCast] at hx2
    have d1 : decide ((0 : Int) ≤ (m : Int)) = true := decide_eq_true ht0
    have d2 : decide ((m : Int) < (l.length : Int)) = true := decide_eq_true ht1
    have d3 : ((0 : Int) ≤ (m : Int)) = True := eq_true ht0
    have d4 : ((m : Int) < (l.length : Int)) = True := eq_true ht1
    clear ht0 ht1
    go_enter Try.func3, Try.ntmps3
    go_wp2_with (first
      | (go_at_call 10; refine (ex_calls _).mono ?_; rintro e W2 ⟨rfl, hb⟩; have n_ := Aside0.mk (HE.out.step hb); clear HE hb; have HE := n_; clear n_)
      | (go_at_call 11; refine (records_Validate.calls kv _ _ l F1 F2 _ (Kd.C_below HCC.out HE.out.bel) HCL.out HV.out).mono ?_; rintro e W2 ⟨rfl, hb⟩; have n_ := Aside0.mk (HE.out.step hb); clear HE hb; have HE := n_; clear n_)
      | (go_at_call 12; refine (linkhouseref2_TypesFault.calls kt _ _ l F1 F2 _ (Kd.C_below HCC.out HE.out.bel) HCL.out HT.out).mono ?_; rintro e W2 ⟨rfl, hb⟩; have n_ := Aside0.mk (HE.out.step hb); clear HE hb; have HE := n_; clear n_)
      | (go_at_call 13; refine (records_Size.calls ks _ _ l ((m : Nat) : Int) (rd_T32 l ((m : Nat) : Int)).f2 0 0 _ (Kd.C_below HCC.out HE.out.bel) HCL.out HS.out).mono ?_; rintro e W2 ⟨rfl, hb⟩; have n_ := Aside0.mk (HE.out.step hb); clear HE hb; have HE := n_; clear n_)
      | (go_at_call 14; refine (linkhouseref2_TypeFault.calls kn _ _ l ((m : Nat) : Int) 0 0 _ (Kd.C_below HCC.out HE.out.bel) HCL.out HN.out).mono ?_; rintro e W2 ⟨rfl, hb⟩; have n_ := Aside0.mk (HE.out.step hb); clear HE hb; have HE := n_; clear n_)
      | ((with_reducible refine gate_dst (N := 6) rfl ?_); refine box_event ?hg (N := 6) ?hd (cs := #[.int .i64 0, .int .i64 0]) (t := 25) ?hr ?_; (case hd => rfl); (case hg => rfl); (case hr => first | (go_simp; done) | (go_simp; rfl)); intro g6 hg W7 hbx hb7; have hz0 := (blk_cell hbx 0).trans rfl; have hz1 := (blk_cell hbx 1).trans rfl; have hy0 := blk_frozen hbx 0; have hy1 := blk_frozen hbx 1; have HX := Aside0.mk (And.intro hg (And.intro hbx hb7)); clear hbx hb7 hg)
      | ((with_reducible refine gate_store (t := 25) (p := 6) rfl ?_); refine store_event (t := 25) (p := 6) (v := .tmp 22) (w1 := ((W7.setCell ⟨g6, 0, none⟩ (.int .i64 (0))).setCell ⟨g6, 1, none⟩ (.int .i64 (0)))) ?hg ?ho ?hn ?hr ?_; (case ho => rfl); (case hg => rfl); (case hn => rfl); (case hr => first | (go_simp; done) | (go_simp; rfl)); intro W8 hw8; have n_ := Aside0.mk (HE.out.boxed HX.out.1 HX.out.2.1 HX.out.2.2 hw8); clear HE HX hw8 hz0 hz1 hy0 hy1; have HE := n_; clear n_)
      | ((with_reducible refine gate_dst (N := 7) rfl ?_); refine box_event ?hg (N := 7) ?hd (cs := #[.int .i64 0, .int .i64 0]) (t := 25) ?hr ?_; (case hd => rfl); (case hg => rfl); (case hr => first | (go_simp; done) | (go_simp; rfl)); intro g7 hg W7 hbx hb7; have hz0 := (blk_cell hbx 0).trans rfl; have hz1 := (blk_cell hbx 1).trans rfl; have hy0 := blk_frozen hbx 0; have hy1 := blk_frozen hbx 1; have HX := Aside0.mk (And.intro hg (And.intro hbx hb7)); clear hbx hb7 hg)
      | ((with_reducible refine gate_store (t := 25) (p := 7) rfl ?_); refine store_event (t := 25) (p := 7) (v := .tmp 25) (w1 := ((W7.setCell ⟨g7, 0, none⟩ (.int .i64 (0))).setCell ⟨g7, 1, none⟩ (.int .i64 (0)))) ?hg ?ho ?hn ?hr ?_; (case ho => rfl); (case hg => rfl); (case hn => rfl); (case hr => first | (go_simp; done) | (go_simp; rfl)); intro W8 hw8; have n_ := Aside0.mk (HE.out.boxed HX.out.1 HX.out.2.1 HX.out.2.2 hw8); clear HE HX hw8 hz0 hz1 hy0 hy1; have HE := n_; clear n_; have p6 := (blk_cell (HE.out.box (g6, 0, 0) (by simp)) 0).trans rfl; have q6 := (blk_cell (HE.out.box (g6, 0, 0) (by simp)) 1).trans rfl; have p7 := (blk_cell (HE.out.box (g7, 0, 0) (by simp)) 0).trans rfl; have q7 := (blk_cell (HE.out.box (g7, 0, 0) (by simp)) 1).trans rfl; have x2 := (HE.out.bel.cell (World.block_lt_of_cell? w _ hx2)).trans hx2))
    go_ret
    exact ⟨rfl, HE.out.bel⟩
  · have h0b : (G1 == 0) = false := by simpa using h0
    have h0d : decide (G1 = 0) = false := by simpa using h0
    rw [hG, if_neg h0] at hs
    have HS := Aside0.mk hs
    clear hs hG
    go_enter Try.func3, Try.ntmps3
    go_wp2_with (first
      | (go_at_call 10; refine (ex_calls _).mono ?_; rintro e W2 ⟨rfl, hb⟩; have n_ := Aside0.mk (HE.out.step hb); clear HE hb; have HE := n_; clear n_)
      | (go_at_call 11; refine (records_Validate.calls kv _ _ l F1 F2 _ (Kd.C_below HCC.out HE.out.bel) HCL.out HV.out).mono ?_; rintro e W2 ⟨rfl, hb⟩; have n_ := Aside0.mk (HE.out.step hb); clear HE hb; have HE := n_; clear n_)
      | (go_at_call 12; refine (linkhouseref2_TypesFault.calls kt _ _ l F1 F2 _ (Kd.C_below HCC.out HE.out.bel) HCL.out HT.out).mono ?_; rintro e W2 ⟨rfl, hb⟩; have n_ := Aside0.mk (HE.out.step hb); clear HE hb; have HE := n_; clear n_)
      | (go_at_call 13; refine (records_Size.calls ks _ _ l t 0 G1 G2 _ (Kd.C_below HCC.out HE.out.bel) HCL.out HS.out).mono ?_; rintro e W2 ⟨rfl, hb⟩; have n_ := Aside0.mk (HE.out.step hb); clear HE hb; have HE := n_; clear n_)
      | (go_at_call 14; refine (linkhouseref2_TypeFault.calls kn _ _ l t G1 G2 _ (Kd.C_below HCC.out HE.out.bel) HCL.out HN.out).mono ?_; rintro e W2 ⟨rfl, hb⟩; have n_ := Aside0.mk (HE.out.step hb); clear HE hb; have HE := n_; clear n_)
      | ((with_reducible refine gate_dst (N := 6) rfl ?_); refine box_event ?hg (N := 6) ?hd (cs := #[.int .i64 0, .int .i64 0]) (t := 25) ?hr ?_; (case hd => rfl); (case hg => rfl); (case hr => first | (go_simp; done) | (go_simp; rfl)); intro g6 hg W7 hbx hb7; have hz0 := (blk_cell hbx 0).trans rfl; have hz1 := (blk_cell hbx 1).trans rfl; have hy0 := blk_frozen hbx 0; have hy1 := blk_frozen hbx 1; have HX := Aside0.mk (And.intro hg (And.intro hbx hb7)); clear hbx hb7 hg)
      | ((with_reducible refine gate_store (t := 25) (p := 6) rfl ?_); refine store_event (t := 25) (p := 6) (v := .tmp 22) (w1 := ((W7.setCell ⟨g6, 0, none⟩ (.int .i64 (G1))).setCell ⟨g6, 1, none⟩ (.int .i64 (G2)))) ?hg ?ho ?hn ?hr ?_; (case ho => rfl); (case hg => rfl); (case hn => rfl); (case hr => first | (go_simp; done) | (go_simp; rfl)); intro W8 hw8; have n_ := Aside0.mk (HE.out.boxed HX.out.1 HX.out.2.1 HX.out.2.2 hw8); clear HE HX hw8 hz0 hz1 hy0 hy1; have HE := n_; clear n_)
      | ((with_reducible refine gate_dst (N := 7) rfl ?_); refine box_event ?hg (N := 7) ?hd (cs := #[.int .i64 0, .int .i64 0]) (t := 25) ?hr ?_; (case hd => rfl); (case hg => rfl); (case hr => first | (go_simp; done) | (go_simp; rfl)); intro g7 hg W7 hbx hb7; have hz0 := (blk_cell hbx 0).trans rfl; have hz1 := (blk_cell hbx 1).trans rfl; have hy0 := blk_frozen hbx 0; have hy1 := blk_frozen hbx 1; have HX := Aside0.mk (And.intro hg (And.intro hbx hb7)); clear hbx hb7 hg)
      | ((with_reducible refine gate_store (t := 25) (p := 7) rfl ?_); refine store_event (t := 25) (p := 7) (v := .tmp 25) (w1 := ((W7.setCell ⟨g7, 0, none⟩ (.int .i64 (G1))).setCell ⟨g7, 1, none⟩ (.int .i64 (G2)))) ?hg ?ho ?hn ?hr ?_; (case ho => rfl); (case hg => rfl); (case hn => rfl); (case hr => first | (go_simp; done) | (go_simp; rfl)); intro W8 hw8; have n_ := Aside0.mk (HE.out.boxed HX.out.1 HX.out.2.1 HX.out.2.2 hw8); clear HE HX hw8 hz0 hz1 hy0 hy1; have HE := n_; clear n_; have p6 := (blk_cell (HE.out.box (g6, G1, G2) (by simp)) 0).trans rfl; have q6 := (blk_cell (HE.out.box (g6, G1, G2) (by simp)) 1).trans rfl; have p7 := (blk_cell (HE.out.box (g7, G1, G2) (by simp)) 0).trans rfl; have q7 := (blk_cell (HE.out.box (g7, G1, G2) (by simp)) 1).trans rfl))
    go_ret
    exact ⟨rfl, HE.out.bel⟩
end Go.Proofs.Ytpmlcmdojmdmhaa.PR
