/- What the law RecordsEquivalence returns: true. -/
import Derived.Test.YtpmlcmdojmdmhaaHEx
set_option linter.unusedVariables false
set_option linter.unusedSimpArgs false
set_option maxRecDepth 100000
namespace Go.Proofs.Ytpmlcmdojmdmhaa.PR
open Go.RowKit Go.Proofs.YtpmlcmdojmdmhaaW.PrintWords Go.Proofs.YtpmlcmdojmdmhaaW.PrintLast Go.Proofs.YtpmlcmdojmdmhaaW.PrintMore
attribute [local go_sem high] eqA25
theorem in_ev5 (a b c : Int) (r : Bool) (h : r = true ↔ (b ≤ a ∧ a ≤ c)) : linkhouseref1_In.f a b c = some r := by
 rw [in_eq]
 congr 1
 cases r
 · rw [decide_eq_false_iff_not]; intro h2; exact absurd (h.2 h2) (by simp)
 · rw [decide_eq_true_iff]; exact h.1 rfl
theorem bis_bool (a b : List S32) (i q : Int) : ∃ r : Bool, (r = true ↔ Bis a b i q) := by
 by_cases h : Bis a b i q
 · exact ⟨true, fun _ => h, fun _ => rfl⟩
 · exact ⟨false, fun e => (by cases e), fun e => absurd e h⟩
set_option maxHeartbeats 2000000 in
theorem law5 (w : World) (A : Option Addr) (c : Nat) (l : List S32) (hC : Kd.C k32 w A l.length l) (hc : l.length ≤ c) (hw : WfL l) (i : Int) (_ : I64 i) (j : Int) (_ : I64 j) (k : Int) (_ : I64 k) :
 Calls Try.prog 7 #[.slice A l.length c, .int .i64 i, .int .i64 j, .int .i64 k] w fun e w' => e = .returned (.bool true) ∧ Below w.heap.size w w' := by
 have hu25 := Try.underlying25
 have hfd : ∀ (w : World) (x y : Int), (Instr.field 25 (.agg #[.int .i64 x, .int .i64 y]) 0).run Try.prog w = .ok (.int .i64 x) w := fun _ _ _ => by kernel_rfl
 obtain ⟨ka, ea⟩ := (typeFault_ev hw i).rounds
 have HCC := Aside0.mk hC
 have HCL := Aside0.mk hc
 have HW := Aside0.mk hw
 have HN1 := Aside0.mk (show wrap64 ((l.length : Int) - 1) = (l.length : Int) - 1 from w64 (by omega) (by have := hC.2.1; omega))
 have HE := Aside0.mk (Lx.start w)
 clear hc hw
 by_cases h1 : (fault2 l i).1 = 0
 case neg =>
  obtain ⟨G1, G2, hG⟩ : ∃ p q, fault2 l i = (p, q) := ⟨_, _, rfl⟩
  rw [hG] at h1 ea
  have HT := Aside0.mk ea
  have h0b : (G1 == 0) = false := by simpa using h1
  have h0d : decide (G1 = 0) = false := by simpa using h1
  have h0n : (G1 != 0) = true := by simpa using h1
  clear h1 hG ea hC
  go_enter Try.func7, Try.ntmps7
  go_wp2_with (first
   | (go_at_call 10; refine (ex_calls _).mono ?_; rintro e W2 ⟨rfl, hb⟩; have n_ := Aside0.mk (HE.out.step hb); clear HE hb; have HE := n_; clear n_)
   | (go_at_call 14; refine (linkhouseref2_TypeFault.calls ka _ _ l i G1 G2 _ (Kd.C_below HCC.out HE.out.bel) HCL.out HT.out).mono ?_; rintro e W2 ⟨rfl, hb⟩; have n_ := Aside0.mk (HE.out.step hb); clear HE hb; have HE := n_; clear n_))
  go_ret
  exact ⟨rfl, HE.out.bel⟩
 have e1 := fault2_snd h1
 rw [e1] at ea
 have HT := Aside0.mk ea
 obtain ⟨va, i0, i1⟩ := fault2_zero.1 h1
 by_cases hj : Inr l j
 case neg =>
  have HJ := Aside0.mk (in_ev5 j 0 ((l.length : Int) - 1) false ⟨fun e => (by cases e), fun h => absurd ⟨h.1, by omega⟩ hj⟩)
  clear h1 e1 ea va i0 i1 hj hC
  go_enter Try.func7, Try.ntmps7
  go_wp2_with (first
   | (go_at_call 10; refine (ex_calls _).mono ?_; rintro e W2 ⟨rfl, hb⟩; have n_ := Aside0.mk (HE.out.step hb); clear HE hb; have HE := n_; clear n_)
   | (go_at_call 14; refine (linkhouseref2_TypeFault.calls ka _ _ l i 0 0 _ (Kd.C_below HCC.out HE.out.bel) HCL.out HT.out).mono ?_; rintro e W2 ⟨rfl, hb⟩; have n_ := Aside0.mk (HE.out.step hb); clear HE hb; have HE := n_; clear n_)
   | (go_at_call 20; (with_reducible show Calls Try.prog 20 #[.int .i64 j, .int .i64 0, _] _ _); refine (linkhouseref1_In.calls j 0 _ false _ (by rw [HN1.out]; exact HJ.out)).mono ?_; rintro e W4 ⟨rfl, ⟨nd, rfl⟩⟩; have n_ := Aside0.mk (HE.out.step (pw_below_drewN (Below.refl _ _) nd)); clear HE; have HE := n_; clear n_))
  go_ret
  exact ⟨rfl, HE.out.bel⟩
 have HJ := Aside0.mk (in_ev5 j 0 ((l.length : Int) - 1) true ⟨fun _ => ⟨hj.1, by have := hj.2; omega⟩, fun _ => rfl⟩)
 by_cases hk : Inr l k
 case neg =>
  have HK := Aside0.mk (in_ev5 k 0 ((l.length : Int) - 1) false ⟨fun e => (by cases e), fun h => absurd ⟨h.1, by omega⟩ hk⟩)
  clear h1 e1 ea va i0 i1 hj hk hC
  go_enter Try.func7, Try.ntmps7
  go_wp2_with (first
   | (go_at_call 10; refine (ex_calls _).mono ?_; rintro e W2 ⟨rfl, hb⟩; have n_ := Aside0.mk (HE.out.step hb); clear HE hb; have HE := n_; clear n_)
   | (go_at_call 14; refine (linkhouseref2_TypeFault.calls ka _ _ l i 0 0 _ (Kd.C_below HCC.out HE.out.bel) HCL.out HT.out).mono ?_; rintro e W2 ⟨rfl, hb⟩; have n_ := Aside0.mk (HE.out.step hb); clear HE hb; have HE := n_; clear n_)
   | (go_at_call 20; (with_reducible show Calls Try.prog 20 #[.int .i64 j, .int .i64 0, _] _ _); refine (linkhouseref1_In.calls j 0 _ true _ (by rw [HN1.out]; exact HJ.out)).mono ?_; rintro e W4 ⟨rfl, ⟨nd, rfl⟩⟩; have n_ := Aside0.mk (HE.out.step (pw_below_drewN (Below.refl _ _) nd)); clear HE; have HE := n_; clear n_)
   | (go_at_call 20; (with_reducible show Calls Try.prog 20 #[.int .i64 k, .int .i64 0, _] _ _); refine (linkhouseref1_In.calls k 0 _ false _ (by rw [HN1.out]; exact HK.out)).mono ?_; rintro e W4 ⟨rfl, ⟨nd, rfl⟩⟩; have n_ := Aside0.mk (by have h := HE.out.step (pw_below_drewN (Below.refl _ _) nd); rwa [World.drewN_drewN] at h); clear HE; have HE := n_; clear n_))
  go_ret
  exact ⟨rfl, HE.out.bel⟩
 have HK := Aside0.mk (in_ev5 k 0 ((l.length : Int) - 1) true ⟨fun _ => ⟨hk.1, by have := hk.2; omega⟩, fun _ => rfl⟩)
 have fj : (fault2 l j).1 = 0 := fault2_zero.2 ⟨va, hj.1, hj.2⟩
 have fk : (fault2 l k).1 = 0 := fault2_zero.2 ⟨va, hk.1, hk.2⟩
 obtain ⟨ra, hra⟩ := bis_bool l l i j
 obtain ⟨rc, hrc⟩ := bis_bool l l j k
 obtain ⟨rd, hrd⟩ := bis_bool l l i k
 have HII := Aside0.mk (show SameR l i l i true 0 0 from .inr (.inr ⟨h1, h1, ⟨fun _ => Bis.refl _ _, fun _ => rfl⟩, rfl, rfl⟩))
 have HIJ := Aside0.mk (show SameR l i l j ra 0 0 from .inr (.inr ⟨h1, fj, hra, rfl, rfl⟩))
 have HJI := Aside0.mk (show SameR l j l i ra 0 0 from .inr (.inr ⟨fj, h1, hra.trans ⟨Bis.symm, Bis.symm⟩, rfl, rfl⟩))
 have HJK := Aside0.mk (show SameR l j l k rc 0 0 from .inr (.inr ⟨fj, fk, hrc, rfl, rfl⟩))
 have HIK := Aside0.mk (show SameR l i l k rd 0 0 from .inr (.inr ⟨h1, fk, hrd, rfl, rfl⟩))
 have HTR := Aside0.mk (show ra = true → rc = true → rd = true from fun x y => hrd.2 ((hra.1 x).trans (hrc.1 y)))
 have HSZ := Aside0.mk (show ra = true → (rd_T32 l i).f2 = (rd_T32 l j).f2 from fun x => (hra.1 x).alike.2.2.1)
 obtain ⟨m, rfl⟩ := Int.eq_ofNat_of_zero_le i0
 obtain ⟨p, rfl⟩ := Int.eq_ofNat_of_zero_le hj.1
 obtain ⟨ad, _, _, eA, _, _, hx2, _⟩ := at_T32 hC (m : Int) i0 i1
 subst eA
 obtain ⟨ad', _, _, eA, _, _, hy2, _⟩ := at_T32 hC (p : Int) hj.1 hj.2
 cases eA
 simp only [Int.toNat_natCast] at hx2 hy2
 obtain ⟨s1, hs1⟩ : ∃ s, (rd_T32 l ((m : Nat) : Int)).f2 = s := ⟨_, rfl⟩
 obtain ⟨s2, hs2⟩ : ∃ s, (rd_T32 l ((p : Nat) : Int)).f2 = s := ⟨_, rfl⟩
 rw [hs1] at hx2 HSZ
 rw [hs2] at hy2 HSZ
 have HX2 := Aside0.mk hx2
 have HY2 := Aside0.mk hy2
 have d1 : decide ((0 : Int) ≤ (m : Int)) = true := decide_eq_true i0
 have d2 : decide ((m : Int) < (l.length : Int)) = true := decide_eq_true i1
 have d3 : ((0 : Int) ≤ (m : Int)) = True := eq_true i0
 have d4 : ((m : Int) < (l.length : Int)) = True := eq_true i1
 have d5 : decide ((0 : Int) ≤ (p : Int)) = true := decide_eq_true hj.1
 have d6 : decide ((p : Int) < (l.length : Int)) = true := decide_eq_true hj.2
 have d7 : ((0 : Int) ≤ (p : Int)) = True := eq_true hj.1
 have d8 : ((p : Int) < (l.length : Int)) = True := eq_true hj.2
 clear h1 e1 ea va i0 i1 hj hk fj fk hra hrc hrd hC hx2 hy2 hs1 hs2
 go_enter Try.func7, Try.ntmps7
 go_wp2_with (first
  | (go_at_call 10; refine (ex_calls _).mono ?_; rintro e W2 ⟨rfl, hb⟩; have n_ := Aside0.mk (HE.out.step hb); clear HE hb; have HE := n_; clear n_)
  | (go_at_call 14; refine (linkhouseref2_TypeFault.calls ka _ _ l ((m : Nat) : Int) 0 0 _ (Kd.C_below HCC.out HE.out.bel) HCL.out HT.out).mono ?_; rintro e W2 ⟨rfl, hb⟩; have n_ := Aside0.mk (HE.out.step hb); clear HE hb; have HE := n_; clear n_)
  | (go_at_call 20; (with_reducible show Calls Try.prog 20 #[.int .i64 ((p : Nat) : Int), .int .i64 0, _] _ _); refine (linkhouseref1_In.calls ((p : Nat) : Int) 0 _ true _ (by rw [HN1.out]; exact HJ.out)).mono ?_; rintro e W4 ⟨rfl, ⟨nd, rfl⟩⟩; have n_ := Aside0.mk (HE.out.step (pw_below_drewN (Below.refl _ _) nd)); clear HE; have HE := n_; clear n_)
  | (go_at_call 20; (with_reducible show Calls Try.prog 20 #[.int .i64 k, .int .i64 0, _] _ _); refine (linkhouseref1_In.calls k 0 _ true _ (by rw [HN1.out]; exact HK.out)).mono ?_; rintro e W4 ⟨rfl, ⟨nd, rfl⟩⟩; have n_ := Aside0.mk (by have h := HE.out.step (pw_below_drewN (Below.refl _ _) nd); rwa [World.drewN_drewN] at h); clear HE; have HE := n_; clear n_)
  | (go_at_call 18; (with_reducible show Calls Try.prog 18 #[.slice (some ad) l.length c, .int .i64 ((m : Nat) : Int), .slice (some ad) l.length c, .int .i64 ((m : Nat) : Int)] _ _); refine (same_calls _ _ _ l (Kd.C_below HCC.out HE.out.bel) HCL.out HW.out ((m : Nat) : Int) _ _ l (Kd.C_below HCC.out HE.out.bel) HCL.out HW.out ((m : Nat) : Int) true 0 0 HII.out).mono ?_; rintro e W2 ⟨rfl, hb⟩; have n_ := Aside0.mk (HE.out.step hb); clear HE hb; have HE := n_; clear n_)
  | ((with_reducible refine gate_dst (N := 10) rfl ?_); refine box_event ?hg (N := 10) ?hd (cs := #[.int .i64 0, .int .i64 0]) (t := 25) ?hr ?_; (case hd => rfl); (case hg => rfl); (case hr => first | (go_simp; done) | (go_simp; rfl)); intro g10 hg W7 hbx hb7; have hz0 := (blk_cell hbx 0).trans rfl; have hz1 := (blk_cell hbx 1).trans rfl; have hy0 := blk_frozen hbx 0; have hy1 := blk_frozen hbx 1; have HX := Aside0.mk (And.intro hg (And.intro hbx hb7)); clear hbx hb7 hg)
  | ((with_reducible refine gate_store (t := 25) (p := 10) rfl ?_); refine store_event (t := 25) (p := 10) (v := .tmp 49) (w1 := ((W7.setCell ⟨g10, 0, none⟩ (.int .i64 (0))).setCell ⟨g10, 1, none⟩ (.int .i64 (0)))) ?hg ?ho ?hn ?hr ?_; (case ho => rfl); (case hg => rfl); (case hn => rfl); (case hr => first | (go_simp; done) | (go_simp; rfl)); intro W8 hw8; have n_ := Aside0.mk (HE.out.boxed HX.out.1 HX.out.2.1 HX.out.2.2 hw8); clear HE HX hw8 hz0 hz1 hy0 hy1; have HE := n_; clear n_)
  | (go_at_call 18; (with_reducible show Calls Try.prog 18 #[.slice (some ad) l.length c, .int .i64 ((m : Nat) : Int), .slice (some ad) l.length c, .int .i64 ((p : Nat) : Int)] _ _); refine (same_calls _ _ _ l (Kd.C_below HCC.out HE.out.bel) HCL.out HW.out ((m : Nat) : Int) _ _ l (Kd.C_below HCC.out HE.out.bel) HCL.out HW.out ((p : Nat) : Int) ra 0 0 HIJ.out).mono ?_; rintro e W2 ⟨rfl, hb⟩; have n_ := Aside0.mk (HE.out.step hb); clear HE hb; have HE := n_; clear n_)
  | ((with_reducible refine gate_dst (N := 12) rfl ?_); refine box_event ?hg (N := 12) ?hd (cs := #[.int .i64 0, .int .i64 0]) (t := 25) ?hr ?_; (case hd => rfl); (case hg => rfl); (case hr => first | (go_simp; done) | (go_simp; rfl)); intro g12 hg W7 hbx hb7; have hz0 := (blk_cell hbx 0).trans rfl; have hz1 := (blk_cell hbx 1).trans rfl; have hy0 := blk_frozen hbx 0; have hy1 := blk_frozen hbx 1; have HX := Aside0.mk (And.intro hg (And.intro hbx hb7)); clear hbx hb7 hg)
  | ((with_reducible refine gate_store (t := 25) (p := 12) rfl ?_); refine store_event (t := 25) (p := 12) (v := .tmp 57) (w1 := ((W7.setCell ⟨g12, 0, none⟩ (.int .i64 (0))).setCell ⟨g12, 1, none⟩ (.int .i64 (0)))) ?hg ?ho ?hn ?hr ?_; (case ho => rfl); (case hg => rfl); (case hn => rfl); (case hr => first | (go_simp; done) | (go_simp; rfl)); intro W8 hw8; have n_ := Aside0.mk (HE.out.boxed HX.out.1 HX.out.2.1 HX.out.2.2 hw8); clear HE HX hw8 hz0 hz1 hy0 hy1; have HE := n_; clear n_)
  | (go_at_call 18; (with_reducible show Calls Try.prog 18 #[.slice (some ad) l.length c, .int .i64 ((p : Nat) : Int), .slice (some ad) l.length c, .int .i64 ((m : Nat) : Int)] _ _); refine (same_calls _ _ _ l (Kd.C_below HCC.out HE.out.bel) HCL.out HW.out ((p : Nat) : Int) _ _ l (Kd.C_below HCC.out HE.out.bel) HCL.out HW.out ((m : Nat) : Int) ra 0 0 HJI.out).mono ?_; rintro e W2 ⟨rfl, hb⟩; have n_ := Aside0.mk (HE.out.step hb); clear HE hb; have HE := n_; clear n_)
  | ((with_reducible refine gate_dst (N := 14) rfl ?_); refine box_event ?hg (N := 14) ?hd (cs := #[.int .i64 0, .int .i64 0]) (t := 25) ?hr ?_; (case hd => rfl); (case hg => rfl); (case hr => first | (go_simp; done) | (go_simp; rfl)); intro g14 hg W7 hbx hb7; have hz0 := (blk_cell hbx 0).trans rfl; have hz1 := (blk_cell hbx 1).trans rfl; have hy0 := blk_frozen hbx 0; have hy1 := blk_frozen hbx 1; have HX := Aside0.mk (And.intro hg (And.intro hbx hb7)); clear hbx hb7 hg)
  | ((with_reducible refine gate_store (t := 25) (p := 14) rfl ?_); refine store_event (t := 25) (p := 14) (v := .tmp 65) (w1 := ((W7.setCell ⟨g14, 0, none⟩ (.int .i64 (0))).setCell ⟨g14, 1, none⟩ (.int .i64 (0)))) ?hg ?ho ?hn ?hr ?_; (case ho => rfl); (case hg => rfl); (case hn => rfl); (case hr => first | (go_simp; done) | (go_simp; rfl)); intro W8 hw8; have n_ := Aside0.mk (HE.out.boxed HX.out.1 HX.out.2.1 HX.out.2.2 hw8); clear HE HX hw8 hz0 hz1 hy0 hy1; have HE := n_; clear n_)
  | (go_at_call 18; (with_reducible show Calls Try.prog 18 #[.slice (some ad) l.length c, .int .i64 ((p : Nat) : Int), .slice (some ad) l.length c, .int .i64 k] _ _); refine (same_calls _ _ _ l (Kd.C_below HCC.out HE.out.bel) HCL.out HW.out ((p : Nat) : Int) _ _ l (Kd.C_below HCC.out HE.out.bel) HCL.out HW.out k rc 0 0 HJK.out).mono ?_; rintro e W2 ⟨rfl, hb⟩; have n_ := Aside0.mk (HE.out.step hb); clear HE hb; have HE := n_; clear n_)
  | ((with_reducible refine gate_dst (N := 16) rfl ?_); refine box_event ?hg (N := 16) ?hd (cs := #[.int .i64 0, .int .i64 0]) (t := 25) ?hr ?_; (case hd => rfl); (case hg => rfl); (case hr => first | (go_simp; done) | (go_simp; rfl)); intro g16 hg W7 hbx hb7; have hz0 := (blk_cell hbx 0).trans rfl; have hz1 := (blk_cell hbx 1).trans rfl; have hy0 := blk_frozen hbx 0; have hy1 := blk_frozen hbx 1; have HX := Aside0.mk (And.intro hg (And.intro hbx hb7)); clear hbx hb7 hg)
  | ((with_reducible refine gate_store (t := 25) (p := 16) rfl ?_); refine store_event (t := 25) (p := 16) (v := .tmp 73) (w1 := ((W7.setCell ⟨g16, 0, none⟩ (.int .i64 (0))).setCell ⟨g16, 1, none⟩ (.int .i64 (0)))) ?hg ?ho ?hn ?hr ?_; (case ho => rfl); (case hg => rfl); (case hn => rfl); (case hr => first | (go_simp; done) | (go_simp; rfl)); intro W8 hw8; have n_ := Aside0.mk (HE.out.boxed HX.out.1 HX.out.2.1 HX.out.2.2 hw8); clear HE HX hw8 hz0 hz1 hy0 hy1; have HE := n_; clear n_)
  | (go_at_call 18; (with_reducible show Calls Try.prog 18 #[.slice (some ad) l.length c, .int .i64 ((m : Nat) : Int), .slice (some ad) l.length c, .int .i64 k] _ _); refine (same_calls _ _ _ l (Kd.C_below HCC.out HE.out.bel) HCL.out HW.out ((m : Nat) : Int) _ _ l (Kd.C_below HCC.out HE.out.bel) HCL.out HW.out k rd 0 0 HIK.out).mono ?_; rintro e W2 ⟨rfl, hb⟩; have n_ := Aside0.mk (HE.out.step hb); clear HE hb; have HE := n_; clear n_)
  | ((with_reducible refine gate_dst (N := 18) rfl ?_); refine box_event ?hg (N := 18) ?hd (cs := #[.int .i64 0, .int .i64 0]) (t := 25) ?hr ?_; (case hd => rfl); (case hg => rfl); (case hr => first | (go_simp; done) | (go_simp; rfl)); intro g18 hg W7 hbx hb7; have hz0 := (blk_cell hbx 0).trans rfl; have hz1 := (blk_cell hbx 1).trans rfl; have hy0 := blk_frozen hbx 0; have hy1 := blk_frozen hbx 1; have HX := Aside0.mk (And.intro hg (And.intro hbx hb7)); clear hbx hb7 hg)
  | ((with_reducible refine gate_store (t := 25) (p := 18) rfl ?_); refine store_event (t := 25) (p := 18) (v := .tmp 81) (w1 := ((W7.setCell ⟨g18, 0, none⟩ (.int .i64 (0))).setCell ⟨g18, 1, none⟩ (.int .i64 (0)))) ?hg ?ho ?hn ?hr ?_; (case ho => rfl); (case hg => rfl); (case hn => rfl); (case hr => first | (go_simp; done) | (go_simp; rfl)); intro W8 hw8; have n_ := Aside0.mk (HE.out.boxed HX.out.1 HX.out.2.1 HX.out.2.2 hw8); clear HE HX hw8 hz0 hz1 hy0 hy1; have HE := n_; clear n_))
 have x2 := (HE.out.bel.cell (World.block_lt_of_cell? w _ HX2.out)).trans HX2.out
 have y2 := (HE.out.bel.cell (World.block_lt_of_cell? w _ HY2.out)).trans HY2.out
 have p10 := (blk_cell (HE.out.box (g10, 0, 0) (by simp)) 0).trans rfl
 have p12 := (blk_cell (HE.out.box (g12, 0, 0) (by simp)) 0).trans rfl
 have p14 := (blk_cell (HE.out.box (g14, 0, 0) (by simp)) 0).trans rfl
 have p16 := (blk_cell (HE.out.box (g16, 0, 0) (by simp)) 0).trans rfl
 have p18 := (blk_cell (HE.out.box (g18, 0, 0) (by simp)) 0).trans rfl
 cases ra with
 | false =>
  clear HTR HSZ
  cases rc <;> cases rd <;> (repeat (go_quiet (fail); try go_wp2)) <;> go_ret <;> exact ⟨rfl, by first | exact HE.out.bel | exact pw_below_drewN HE.out.bel _⟩
 | true =>
  obtain rfl : s1 = s2 := HSZ.out rfl
  cases rc with
  | false =>
   clear HTR HSZ
   cases rd <;> (repeat (go_quiet (fail); try go_wp2)) <;> go_ret <;> exact ⟨rfl, by first | exact HE.out.bel | exact pw_below_drewN HE.out.bel _⟩
  | true =>
   obtain rfl : rd = true := HTR.out rfl rfl
   clear HTR HSZ
   repeat (go_quiet (fail); try go_wp2)
   go_ret
   exact ⟨rfl, by first | exact HE.out.bel | exact pw_below_drewN HE.out.bel _⟩
end Go.Proofs.Ytpmlcmdojmdmhaa.PR
