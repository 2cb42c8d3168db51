/- What the law RecordsSameMatchesSpec returns: true. -/
import Derived.Test.YtpmlcmdojmdmhaaHEx
import Derived.Test.YtpmlcmdojmdmhaaHST
set_option linter.unusedVariables false
set_option linter.unusedSimpArgs false
set_option maxRecDepth 100000
namespace Go.Proofs.Ytpmlcmdojmdmhaa.PR
open Go.RowKit Go.Proofs.YtpmlcmdojmdmhaaW.PrintWords Go.Proofs.YtpmlcmdojmdmhaaW.PrintLast Go.Proofs.YtpmlcmdojmdmhaaW.PrintMore
attribute [local go_sem high] eqA25
set_option maxHeartbeats 1000000 in
theorem law4 (w : World) (A : Option Addr) (c : Nat) (a : List S32) (hC : Kd.C k32 w A a.length a) (hc : a.length ≤ c) (hw : WfL a) (i : Int) (_ : I64 i) (B : Option Addr) (d : Nat) (b : List S32) (hD : Kd.C k32 w B b.length b) (hd : b.length ≤ d) (hu : WfL b) (k : Int) (_ : I64 k) :
 Calls Try.prog 6 #[.slice A a.length c, .int .i64 i, .slice B b.length d, .int .i64 k] w fun e w' => e = .returned (.bool true) ∧ Below w.heap.size w w' := by
 obtain ⟨ka, ea⟩ := (typeFault_ev hw i).rounds
 obtain ⟨kb, eb⟩ := (typeFault_ev hu k).rounds
 have HCC := Aside0.mk hC
 have HCL := Aside0.mk hc
 have HDD := Aside0.mk hD
 have HDL := Aside0.mk hd
 have HW := Aside0.mk hw
 have HU := Aside0.mk hu
 have HE := Aside0.mk (Lx.start w)
 clear hC hc hD hd hw hu
 by_cases h1 : (fault2 a i).1 = 0
 · have e1 := fault2_snd h1
   rw [e1] at ea
   have HT := Aside0.mk ea
   by_cases h2 : (fault2 b k).1 = 0
   · have e2 := fault2_snd h2
     rw [e2] at eb
     have HT2 := Aside0.mk eb
     obtain ⟨va, i0, i1⟩ := fault2_zero.1 h1
     obtain ⟨vb, k0, k1⟩ := fault2_zero.1 h2
     obtain ⟨r, hr⟩ : ∃ r : Bool, (r = true ↔ Bis a b i k) := by
      by_cases h : Bis a b i k
      · exact ⟨true, fun _ => h, fun _ => rfl⟩
      · exact ⟨false, fun e => (by cases e), fun e => absurd e h⟩
     have HR := Aside0.mk (show SameR a i b k r 0 0 from .inr (.inr ⟨h1, h2, hr, rfl, rfl⟩))
     have HV := Aside0.mk (And.intro va (And.intro vb (And.intro (show Inr a i from ⟨i0, i1⟩) (And.intro (show Inr b k from ⟨k0, k1⟩) hr))))
     clear h1 h2 e1 e2 va vb i0 i1 k0 k1 hr ea eb
     go_enter Try.func6, Try.ntmps6
     go_wp2_with (first
      | (go_at_call 10; refine (ex_calls _).mono ?_; rintro e W2 ⟨rfl, hb⟩; have n_ := Aside0.mk (HE.out.step hb); clear HE hb; have HE := n_; clear n_)
      | (go_at_call 18; refine (same_calls _ _ _ a (Kd.C_below HCC.out HE.out.bel) HCL.out HW.out i _ _ b (Kd.C_below HDD.out HE.out.bel) HDL.out HU.out k r 0 0 HR.out).mono ?_; rintro e W2 ⟨rfl, hb⟩; have n_ := Aside0.mk (HE.out.step hb); clear HE hb; have HE := n_; clear n_)
      | ((with_reducible refine gate_dst (N := 10) rfl ?_); refine box_event ?hg (N := 10) ?hd (cs := #[.int .i64 0, .int .i64 0]) (t := 25) ?hr ?_; (case hd => rfl); (case hg => rfl); (case hr => first | (go_simp; done) | (go_simp; rfl)); intro g10 hg W7 hbx hb7; have hz0 := (blk_cell hbx 0).trans rfl; have hz1 := (blk_cell hbx 1).trans rfl; have hy0 := blk_frozen hbx 0; have hy1 := blk_frozen hbx 1; have HX := Aside0.mk (And.intro hg (And.intro hbx hb7)); clear hbx hb7 hg)
      | ((with_reducible refine gate_store (t := 25) (p := 10) rfl ?_); refine store_event (t := 25) (p := 10) (v := .tmp 22) (w1 := ((W7.setCell ⟨g10, 0, none⟩ (.int .i64 (0))).setCell ⟨g10, 1, none⟩ (.int .i64 (0)))) ?hg ?ho ?hn ?hr ?_; (case ho => rfl); (case hg => rfl); (case hn => rfl); (case hr => first | (go_simp; done) | (go_simp; rfl)); intro W8 hw8; have n_ := Aside0.mk (HE.out.boxed HX.out.1 HX.out.2.1 HX.out.2.2 hw8); clear HE HX hw8 hz0 hz1 hy0 hy1; have HE := n_; clear n_)
      | (go_at_call 14; (with_reducible show Calls Try.prog 14 #[.slice A a.length c, .int .i64 i] _ _); refine (linkhouseref2_TypeFault.calls ka _ _ a i 0 0 _ (Kd.C_below HCC.out HE.out.bel) HCL.out HT.out).mono ?_; rintro e W2 ⟨rfl, hb⟩; have n_ := Aside0.mk (HE.out.step hb); clear HE hb; have HE := n_; clear n_)
      | ((with_reducible refine gate_dst (N := 11) rfl ?_); refine box_event ?hg (N := 11) ?hd (cs := #[.int .i64 0, .int .i64 0]) (t := 25) ?hr ?_; (case hd => rfl); (case hg => rfl); (case hr => first | (go_simp; done) | (go_simp; rfl)); intro g11 hg W7 hbx hb7; have hz0 := (blk_cell hbx 0).trans rfl; have hz1 := (blk_cell hbx 1).trans rfl; have hy0 := blk_frozen hbx 0; have hy1 := blk_frozen hbx 1; have HX := Aside0.mk (And.intro hg (And.intro hbx hb7)); clear hbx hb7 hg)
      | ((with_reducible refine gate_store (t := 25) (p := 11) rfl ?_); refine store_event (t := 25) (p := 11) (v := .tmp 25) (w1 := ((W7.setCell ⟨g11, 0, none⟩ (.int .i64 (0))).setCell ⟨g11, 1, none⟩ (.int .i64 (0)))) ?hg ?ho ?hn ?hr ?_; (case ho => rfl); (case hg => rfl); (case hn => rfl); (case hr => first | (go_simp; done) | (go_simp; rfl)); intro W8 hw8; have n_ := Aside0.mk (HE.out.boxed HX.out.1 HX.out.2.1 HX.out.2.2 hw8); clear HE HX hw8 hz0 hz1 hy0 hy1; have HE := n_; clear n_; have p11 := (blk_cell (HE.out.box (g11, 0, 0) (by simp)) 0).trans rfl; have q11 := (blk_cell (HE.out.box (g11, 0, 0) (by simp)) 1).trans rfl)
      | (go_at_call 14; (with_reducible show Calls Try.prog 14 #[.slice B b.length d, .int .i64 k] _ _); refine (linkhouseref2_TypeFault.calls kb _ _ b k 0 0 _ (Kd.C_below HDD.out HE.out.bel) HDL.out HT2.out).mono ?_; rintro e W2 ⟨rfl, hb⟩; have n_ := Aside0.mk (HE.out.step hb); clear HE hb; have HE := n_; clear n_)
      | ((with_reducible refine gate_dst (N := 12) rfl ?_); refine box_event ?hg (N := 12) ?hd (cs := #[.int .i64 0, .int .i64 0]) (t := 25) ?hr ?_; (case hd => rfl); (case hg => rfl); (case hr => first | (go_simp; done) | (go_simp; rfl)); intro g12 hg W7 hbx hb7; have hz0 := (blk_cell hbx 0).trans rfl; have hz1 := (blk_cell hbx 1).trans rfl; have hy0 := blk_frozen hbx 0; have hy1 := blk_frozen hbx 1; have HX := Aside0.mk (And.intro hg (And.intro hbx hb7)); clear hbx hb7 hg)
      | ((with_reducible refine gate_store (t := 25) (p := 12) rfl ?_); refine store_event (t := 25) (p := 12) (v := .tmp 38) (w1 := ((W7.setCell ⟨g12, 0, none⟩ (.int .i64 (0))).setCell ⟨g12, 1, none⟩ (.int .i64 (0)))) ?hg ?ho ?hn ?hr ?_; (case ho => rfl); (case hg => rfl); (case hn => rfl); (case hr => first | (go_simp; done) | (go_simp; rfl)); intro W8 hw8; have n_ := Aside0.mk (HE.out.boxed HX.out.1 HX.out.2.1 HX.out.2.2 hw8); clear HE HX hw8 hz0 hz1 hy0 hy1; have HE := n_; clear n_; have p10 := (blk_cell (HE.out.box (g10, 0, 0) (by simp)) 0).trans rfl; have q10 := (blk_cell (HE.out.box (g10, 0, 0) (by simp)) 1).trans rfl; have p12 := (blk_cell (HE.out.box (g12, 0, 0) (by simp)) 0).trans rfl; have q12 := (blk_cell (HE.out.box (g12, 0, 0) (by simp)) 1).trans rfl)
      | (go_at_call 19; refine (sameTypes_calls _ _ _ a (Kd.C_below HCC.out HE.out.bel) HCL.out _ _ b (Kd.C_below HDD.out HE.out.bel) HDL.out HV.out.1 HV.out.2.1 i k HV.out.2.2.1 HV.out.2.2.2.1 r HV.out.2.2.2.2).mono ?_; rintro e W2 ⟨rfl, hb⟩; have n_ := Aside0.mk (HE.out.step hb); clear HE hb; have HE := n_; clear n_))
     go_ret
     exact ⟨rfl, HE.out.bel⟩
   · obtain ⟨G1, G2, hG⟩ : ∃ p q, fault2 b k = (p, q) := ⟨_, _, rfl⟩
     have HR := Aside0.mk (show SameR a i b k false (fault2 b k).1 (-3) from .inr (.inl ⟨h1, h2, rfl, rfl, rfl⟩))
     rw [hG] at h2 eb HR
     have HT2 := Aside0.mk eb
     have h0b : (G1 == 0) = false := by simpa using h2
     have h0d : decide (G1 = 0) = false := by simpa using h2
     have h0n : (G1 != 0) = true := by simpa using h2
     clear h1 h2 hG ea eb e1
     go_enter Try.func6, Try.ntmps6
     go_wp2_with (first
      | (go_at_call 10; refine (ex_calls _).mono ?_; rintro e W2 ⟨rfl, hb⟩; have n_ := Aside0.mk (HE.out.step hb); clear HE hb; have HE := n_; clear n_)
      | (go_at_call 18; refine (same_calls _ _ _ a (Kd.C_below HCC.out HE.out.bel) HCL.out HW.out i _ _ b (Kd.C_below HDD.out HE.out.bel) HDL.out HU.out k false G1 (-3) HR.out).mono ?_; rintro e W2 ⟨rfl, hb⟩; have n_ := Aside0.mk (HE.out.step hb); clear HE hb; have HE := n_; clear n_)
      | ((with_reducible refine gate_dst (N := 10) rfl ?_); refine box_event ?hg (N := 10) ?hd (cs := #[.int .i64 0, .int .i64 0]) (t := 25) ?hr ?_; (case hd => rfl); (case hg => rfl); (case hr => first | (go_simp; done) | (go_simp; rfl)); intro g10 hg W7 hbx hb7; have hz0 := (blk_cell hbx 0).trans rfl; have hz1 := (blk_cell hbx 1).trans rfl; have hy0 := blk_frozen hbx 0; have hy1 := blk_frozen hbx 1; have HX := Aside0.mk (And.intro hg (And.intro hbx hb7)); clear hbx hb7 hg)
      | ((with_reducible refine gate_store (t := 25) (p := 10) rfl ?_); refine store_event (t := 25) (p := 10) (v := .tmp 22) (w1 := ((W7.setCell ⟨g10, 0, none⟩ (.int .i64 (G1))).setCell ⟨g10, 1, none⟩ (.int .i64 ((-3))))) ?hg ?ho ?hn ?hr ?_; (case ho => rfl); (case hg => rfl); (case hn => rfl); (case hr => first | (go_simp; done) | (go_simp; rfl)); intro W8 hw8; have n_ := Aside0.mk (HE.out.boxed HX.out.1 HX.out.2.1 HX.out.2.2 hw8); clear HE HX hw8 hz0 hz1 hy0 hy1; have HE := n_; clear n_)
      | (go_at_call 14; (with_reducible show Calls Try.prog 14 #[.slice A a.length c, .int .i64 i] _ _); refine (linkhouseref2_TypeFault.calls ka _ _ a i 0 0 _ (Kd.C_below HCC.out HE.out.bel) HCL.out HT.out).mono ?_; rintro e W2 ⟨rfl, hb⟩; have n_ := Aside0.mk (HE.out.step hb); clear HE hb; have HE := n_; clear n_)
      | ((with_reducible refine gate_dst (N := 11) rfl ?_); refine box_event ?hg (N := 11) ?hd (cs := #[.int .i64 0, .int .i64 0]) (t := 25) ?hr ?_; (case hd => rfl); (case hg => rfl); (case hr => first | (go_simp; done) | (go_simp; rfl)); intro g11 hg W7 hbx hb7; have hz0 := (blk_cell hbx 0).trans rfl; have hz1 := (blk_cell hbx 1).trans rfl; have hy0 := blk_frozen hbx 0; have hy1 := blk_frozen hbx 1; have HX := Aside0.mk (And.intro hg (And.intro hbx hb7)); clear hbx hb7 hg)
      | ((with_reducible refine gate_store (t := 25) (p := 11) rfl ?_); refine store_event (t := 25) (p := 11) (v := .tmp 25) (w1 := ((W7.setCell ⟨g11, 0, none⟩ (.int .i64 (0))).setCell ⟨g11, 1, none⟩ (.int .i64 (0)))) ?hg ?ho ?hn ?hr ?_; (case ho => rfl); (case hg => rfl); (case hn => rfl); (case hr => first | (go_simp; done) | (go_simp; rfl)); intro W8 hw8; have n_ := Aside0.mk (HE.out.boxed HX.out.1 HX.out.2.1 HX.out.2.2 hw8); clear HE HX hw8 hz0 hz1 hy0 hy1; have HE := n_; clear n_; have p11 := (blk_cell (HE.out.box (g11, 0, 0) (by simp)) 0).trans rfl; have q11 := (blk_cell (HE.out.box (g11, 0, 0) (by simp)) 1).trans rfl)
      | (go_at_call 14; (with_reducible show Calls Try.prog 14 #[.slice B b.length d, .int .i64 k] _ _); refine (linkhouseref2_TypeFault.calls kb _ _ b k G1 G2 _ (Kd.C_below HDD.out HE.out.bel) HDL.out HT2.out).mono ?_; rintro e W2 ⟨rfl, hb⟩; have n_ := Aside0.mk (HE.out.step hb); clear HE hb; have HE := n_; clear n_)
      | ((with_reducible refine gate_dst (N := 12) rfl ?_); refine box_event ?hg (N := 12) ?hd (cs := #[.int .i64 0, .int .i64 0]) (t := 25) ?hr ?_; (case hd => rfl); (case hg => rfl); (case hr => first | (go_simp; done) | (go_simp; rfl)); intro g12 hg W7 hbx hb7; have hz0 := (blk_cell hbx 0).trans rfl; have hz1 := (blk_cell hbx 1).trans rfl; have hy0 := blk_frozen hbx 0; have hy1 := blk_frozen hbx 1; have HX := Aside0.mk (And.intro hg (And.intro hbx hb7)); clear hbx hb7 hg)
      | ((with_reducible refine gate_store (t := 25) (p := 12) rfl ?_); refine store_event (t := 25) (p := 12) (v := .tmp 38) (w1 := ((W7.setCell ⟨g12, 0, none⟩ (.int .i64 (G1))).setCell ⟨g12, 1, none⟩ (.int .i64 (G2)))) ?hg ?ho ?hn ?hr ?_; (case ho => rfl); (case hg => rfl); (case hn => rfl); (case hr => first | (go_simp; done) | (go_simp; rfl)); intro W8 hw8; have n_ := Aside0.mk (HE.out.boxed HX.out.1 HX.out.2.1 HX.out.2.2 hw8); clear HE HX hw8 hz0 hz1 hy0 hy1; have HE := n_; clear n_; have p10 := (blk_cell (HE.out.box (g10, G1, (-3)) (by simp)) 0).trans rfl; have q10 := (blk_cell (HE.out.box (g10, G1, (-3)) (by simp)) 1).trans rfl; have p12 := (blk_cell (HE.out.box (g12, G1, G2) (by simp)) 0).trans rfl; have q12 := (blk_cell (HE.out.box (g12, G1, G2) (by simp)) 1).trans rfl))
     go_region_held3 (fun w' => w'.cell? ⟨g10, 0, none⟩ = some (.int .i64 G1) ∧ w'.cell? ⟨g10, 1, none⟩ = some (.int .i64 (-3)) ∧ w'.cell? ⟨g12, 0, none⟩ = some (.int .i64 G1)) (first | exact ⟨(blk_cell (HE9.out.box (g10, G1, -3) (by simp)) 0).trans rfl, (blk_cell (HE9.out.box (g10, G1, -3) (by simp)) 1).trans rfl, (blk_cell (HE9.out.box (g12, G1, G2) (by simp)) 0).trans rfl⟩ | go_keep) (first | (go_at_call 16; refine (linkhouseref1_At.calls G1 (-3) G1 (-3) _ (by simp [linkhouseref1_At.f])).mono ?_; rintro e W9 ⟨rfl, hb9⟩; have HE9 := Aside0.mk ((HE.out.step (below_drew1 (Below.refl _ _))).step hb9); clear hb9))
     go_wp2
     go_ret
     exact ⟨rfl, HE9.out.bel⟩
 · obtain ⟨G1, G2, hG⟩ : ∃ p q, fault2 a i = (p, q) := ⟨_, _, rfl⟩
   have HR := Aside0.mk (show SameR a i b k false (fault2 a i).1 (fault2 a i).2 from .inl ⟨h1, rfl, rfl, rfl⟩)
   rw [hG] at h1 ea HR
   have HT := Aside0.mk ea
   have h0b : (G1 == 0) = false := by simpa using h1
   have h0d : decide (G1 = 0) = false := by simpa using h1
   have h0n : (G1 != 0) = true := by simpa using h1
   clear h1 hG ea eb
   go_enter Try.func6, Try.ntmps6
   go_wp2_with (first
    | (go_at_call 10; refine (ex_calls _).mono ?_; rintro e W2 ⟨rfl, hb⟩; have n_ := Aside0.mk (HE.out.step hb); clear HE hb; have HE := n_; clear n_)
    | (go_at_call 18; refine (same_calls _ _ _ a (Kd.C_below HCC.out HE.out.bel) HCL.out HW.out i _ _ b (Kd.C_below HDD.out HE.out.bel) HDL.out HU.out k false G1 G2 HR.out).mono ?_; rintro e W2 ⟨rfl, hb⟩; have n_ := Aside0.mk (HE.out.step hb); clear HE hb; have HE := n_; clear n_)
    | ((with_reducible refine gate_dst (N := 10) rfl ?_); refine box_event ?hg (N := 10) ?hd (cs := #[.int .i64 0, .int .i64 0]) (t := 25) ?hr ?_; (case hd => rfl); (case hg => rfl); (case hr => first | (go_simp; done) | (go_simp; rfl)); intro g10 hg W7 hbx hb7; have hz0 := (blk_cell hbx 0).trans rfl; have hz1 := (blk_cell hbx 1).trans rfl; have hy0 := blk_frozen hbx 0; have hy1 := blk_frozen hbx 1; have HX := Aside0.mk (And.intro hg (And.intro hbx hb7)); clear hbx hb7 hg)
    | ((with_reducible refine gate_store (t := 25) (p := 10) rfl ?_); refine store_event (t := 25) (p := 10) (v := .tmp 22) (w1 := ((W7.setCell ⟨g10, 0, none⟩ (.int .i64 (G1))).setCell ⟨g10, 1, none⟩ (.int .i64 (G2)))) ?hg ?ho ?hn ?hr ?_; (case ho => rfl); (case hg => rfl); (case hn => rfl); (case hr => first | (go_simp; done) | (go_simp; rfl)); intro W8 hw8; have n_ := Aside0.mk (HE.out.boxed HX.out.1 HX.out.2.1 HX.out.2.2 hw8); clear HE HX hw8 hz0 hz1 hy0 hy1; have HE := n_; clear n_)
    | (go_at_call 14; (with_reducible show Calls Try.prog 14 #[.slice A a.length c, .int .i64 i] _ _); refine (linkhouseref2_TypeFault.calls ka _ _ a i G1 G2 _ (Kd.C_below HCC.out HE.out.bel) HCL.out HT.out).mono ?_; rintro e W2 ⟨rfl, hb⟩; have n_ := Aside0.mk (HE.out.step hb); clear HE hb; have HE := n_; clear n_)
    | ((with_reducible refine gate_dst (N := 11) rfl ?_); refine box_event ?hg (N := 11) ?hd (cs := #[.int .i64 0, .int .i64 0]) (t := 25) ?hr ?_; (case hd => rfl); (case hg => rfl); (case hr => first | (go_simp; done) | (go_simp; rfl)); intro g11 hg W7 hbx hb7; have hz0 := (blk_cell hbx 0).trans rfl; have hz1 := (blk_cell hbx 1).trans rfl; have hy0 := blk_frozen hbx 0; have hy1 := blk_frozen hbx 1; have HX := Aside0.mk (And.intro hg (And.intro hbx hb7)); clear hbx hb7 hg)
    | ((with_reducible refine gate_store (t := 25) (p := 11) rfl ?_); refine store_event (t := 25) (p := 11) (v := .tmp 25) (w1 := ((W7.setCell ⟨g11, 0, none⟩ (.int .i64 (G1))).setCell ⟨g11, 1, none⟩ (.int .i64 (G2)))) ?hg ?ho ?hn ?hr ?_; (case ho => rfl); (case hg => rfl); (case hn => rfl); (case hr => first | (go_simp; done) | (go_simp; rfl)); intro W8 hw8; have n_ := Aside0.mk (HE.out.boxed HX.out.1 HX.out.2.1 HX.out.2.2 hw8); clear HE HX hw8 hz0 hz1 hy0 hy1; have HE := n_; clear n_; have p10 := (blk_cell (HE.out.box (g10, G1, G2) (by simp)) 0).trans rfl; have q10 := (blk_cell (HE.out.box (g10, G1, G2) (by simp)) 1).trans rfl; have p11 := (blk_cell (HE.out.box (g11, G1, G2) (by simp)) 0).trans rfl; have q11 := (blk_cell (HE.out.box (g11, G1, G2) (by simp)) 1).trans rfl))
   go_ret
   exact ⟨rfl, HE.out.bel⟩
end Go.Proofs.Ytpmlcmdojmdmhaa.PR
