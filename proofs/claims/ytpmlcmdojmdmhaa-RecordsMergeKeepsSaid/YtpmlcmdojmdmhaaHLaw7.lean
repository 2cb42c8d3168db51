/- What the law RecordsMergeKeeps returns: true. -/
import Derived.Test.YtpmlcmdojmdmhaaHEx
import Derived.Test.YtpmlcmdojmdmhaaHKeep
set_option linter.unusedVariables false
set_option linter.unusedSimpArgs false
set_option maxRecDepth 100000
namespace Go.Proofs.Ytpmlcmdojmdmhaa.PR
open Go.RowKit Go.Proofs.YtpmlcmdojmdmhaaW.PrintWords Go.Proofs.YtpmlcmdojmdmhaaW.PrintLast Go.Proofs.YtpmlcmdojmdmhaaW.PrintMore
attribute [local go_sem high] eqA25
theorem in_ev7 (a b c : Int) (r : Bool) (h : r = true ↔ (b ≤ a ∧ a ≤ c)) : linkhouseref1_In.f a b c = some r := by
  rw [in_eq]
  congr 1
  cases r
  · rw [decide_eq_false_iff_not]; intro h2; exact absurd (h.2 h2) (by simp)
  · rw [decide_eq_true_iff]; exact h.1 rfl
theorem in_range (l : List S32) (k : Int) : linkhouseref1_In.f k 0 ((l.length : Int) - 1) = some true ∧ Inr l k ∨ linkhouseref1_In.f k 0 ((l.length : Int) - 1) = some false ∧ ¬ Inr l k := by
  by_cases h : Inr l k
  · exact .inl ⟨in_ev7 _ _ _ _ ⟨fun _ => ⟨h.1, by have := h.2; omega⟩, fun _ => rfl⟩, h⟩
  · exact .inr ⟨in_ev7 _ _ _ _ ⟨fun e => (by cases e), fun e => absurd ⟨e.1, by omega⟩ h⟩, h⟩
theorem merge_cases {a b : List S32} (hw : WfL a) (hu : WfL b) : (∃ k p q, records_Merge.f k a b = some ([], [], p, q) ∧ p ≠ 0) ∨
    ∃ k N Ad, Valid a ∧ Valid b ∧ Inv a b b.length N Ad ∧ a.length + Ad.length ≤ 30 ∧ records_Merge.f k a b = some (uni a b N Ad, N, 0, 0) := by
  by_cases h1 : (fault a).1 = 0
  · by_cases h2 : (fault b).1 = 0
    · obtain ⟨T, O, N, Ad, hm, he⟩ := merge_ev hw hu h1 h2
      obtain ⟨k, hk⟩ := he.rounds
      by_cases hl : a.length + Ad.length > 30
      · rw [if_pos hl] at hk
        exact .inl ⟨k, 10, -4, hk, by decide⟩
      · rw [if_neg hl] at hk
        exact .inr ⟨k, N, Ad, fault_zero.1 h1, fault_zero.1 h2, hm.inv, by omega, hk⟩
    · obtain ⟨k, hk⟩ := (merge_bad2 hw hu h1 h2).rounds
      exact .inl ⟨k, _, _, hk, h2⟩
  · obtain ⟨k, hk⟩ := (merge_bad1 (b := b) hw h1).rounds
    exact .inl ⟨k, _, _, hk, h1⟩
set_option maxHeartbeats 2000000 in
theorem law7 (w : World) (A : Option Addr) (c : Nat) (a : List S32) (hC : Kd.C k32 w A a.length a) (hc : a.length ≤ c) (hw : WfL a) (B : Option Addr) (d : Nat) (b : List S32) (hD : Kd.C k32 w B b.length b) (hd : b.length ≤ d) (hu : WfL b) (k : Int) (_ : I64 k) :
    Calls Try.prog 9 #[.slice A a.length c, .slice B b.length d, .int .i64 k] w fun e w' => e = .returned (.bool true) ∧ Below w.heap.size w w' := by
  have hu25 := Try.underlying25
  have hfd : ∀ (w : World) (x y : Int), (Instr.field 25 (.agg #[.int .i64 x, .int .i64 y]) 0).run Try.prog w = .ok (.int .i64 x) w := fun _ _ _ => by kernel_rfl
  have HCC := Aside0.mk hC
  have HCL := Aside0.mk hc
  have HDD := Aside0.mk hD
  have HDL := Aside0.mk hd
  have HW := Aside0.mk hw
  have HU := Aside0.mk hu
  have HE := Aside0.mk (Lx.start w)
  rcases merge_cases hw hu with ⟨km, G1, G2, em, h0⟩ | ⟨km, N, Ad, va, vb, hi, hl, em⟩
  · have HM := Aside0.mk em
    have h0b : (G1 == 0) = false := by simpa using h0
    have h0d : decide (G1 = 0) = false := by simpa using h0
    have h0n : (G1 != 0) = true := by simpa using h0
    clear h0 em hC hc hD hd hw hu
    go_enter Try.func9, Try.ntmps9
    go_wp2_with (first
      | (go_at_call 10; refine (ex_calls _).mono ?_; rintro e W2 ⟨rfl, hb⟩; have n_ := Aside0.mk (HE.out.step hb); clear HE hb; have HE := n_; clear n_)
      | (go_at_call 21; refine (records_Merge.calls km _ _ a _ _ b [] [] G1 G2 _ (Kd.C_below HCC.out HE.out.bel) HCL.out (Kd.C_below HDD.out HE.out.bel) HDL.out HM.out).mono ?_; rintro e W2 ⟨v0, v1, rfl, hr0, hr1, hb⟩; obtain ⟨AL, cL, rfl, hl0, hC0⟩ := Kd.R_reads hr0; obtain ⟨AN, cN, rfl, hl1, hC1⟩ := Kd.R_reads hr1; have HL0 := Aside0.mk hl0; have HL1 := Aside0.mk hl1; have HC0 := Aside0.mk hC0; have HC1 := Aside0.mk hC1; have HF := Aside0.mk (Lx.start W2); have n_ := Aside0.mk (HE.out.step hb); clear HE hb hr0 hr1 hl0 hl1 hC0 hC1; have HE := n_; clear n_)
      | ((with_reducible refine gate_dst (N := 9) rfl ?_); refine box_event ?hg (N := 9) ?hd (cs := #[.int .i64 0, .int .i64 0]) (t := 25) ?hr ?_; (case hd => rfl); (case hg => rfl); (case hr => first | (go_simp; done) | (go_simp; rfl)); intro g9 hg W7 hbx hb7; have hz0 := (blk_cell hbx 0).trans rfl; have hz1 := (blk_cell hbx 1).trans rfl; have hy0 := blk_frozen hbx 0; have hy1 := blk_frozen hbx 1; have HX := Aside0.mk (And.intro hg (And.intro hbx hb7)); clear hbx hb7 hg)
      | ((with_reducible refine gate_store (t := 25) (p := 9) rfl ?_); refine store_event (t := 25) (p := 9) (v := .tmp 22) (w1 := ((W7.setCell ⟨g9, 0, none⟩ (.int .i64 (G1))).setCell ⟨g9, 1, none⟩ (.int .i64 (G2)))) ?hg ?ho ?hn ?hr ?_; (case ho => rfl); (case hg => rfl); (case hn => rfl); (case hr => first | (go_simp; done) | (go_simp; rfl)); intro W8 hw8; have m_ := Aside0.mk (HF.out.boxed HX.out.1 HX.out.2.1 HX.out.2.2 hw8); have n_ := Aside0.mk (HE.out.boxed HX.out.1 HX.out.2.1 HX.out.2.2 hw8); clear HE HF HX hw8 hz0 hz1 hy0 hy1; have HE := n_; have HF := m_; clear n_ m_; have p9 := (blk_cell (HE.out.box (g9, G1, G2) (by simp)) 0).trans rfl; have q9 := (blk_cell (HE.out.box (g9, G1, G2) (by simp)) 1).trans rfl))
    go_ret
    exact ⟨rfl, HE.out.bel⟩
  have HM := Aside0.mk em
  have HWL := Aside0.mk (uni_wf hw hu va vb hi hl)
  have vl := uni_valid va vb hi hl
  obtain ⟨kv, ev⟩ := (validate_ev HWL.out).rounds
  rw [fault_valid vl] at ev
  have HVL := Aside0.mk ev
  have hlu : (uni a b N Ad).length = a.length + Ad.length := uni_len
  have hSA : Inr a k → SameR a k (uni a b N Ad) k true 0 0 := fun h => .inr (.inr ⟨fault2_zero.2 ⟨va, h.1, h.2⟩, fault2_zero.2 ⟨vl, h.1, by have := h.2; omega⟩, ⟨fun _ => bis_left va h, fun _ => rfl⟩, rfl, rfl⟩)
  have hSB : Inr b k → SameR b k (uni a b N Ad) (rd N k) true 0 0 := fun h => .inr (.inr ⟨fault2_zero.2 ⟨vb, h.1, h.2⟩, fault2_zero.2 ⟨vl, (num_inr hi h).1, (num_inr hi h).2⟩, ⟨fun _ => bis_right va vb hi h, fun _ => rfl⟩, rfl, rfl⟩)
  have hnl := hi.len
  have HNB := Aside0.mk hnl
  have hla := va.1
  have hlb := vb.1
  have HN1 := Aside0.mk (show wrap64 ((a.length : Int) - 1) = (a.length : Int) - 1 from w64 (by omega) (by omega))
  have HN2 := Aside0.mk (show wrap64 ((b.length : Int) - 1) = (b.length : Int) - 1 from w64 (by omega) (by omega))
  obtain ⟨L, hL⟩ : ∃ L, uni a b N Ad = L := ⟨_, rfl⟩
  rw [hL] at HM HWL HVL hlu hSA hSB
  have d1 : decide ((L.length : Int) < (a.length : Int)) = false := decide_eq_false (by omega)
  have d2 : decide (L.length < a.length) = false := decide_eq_false (by omega)
  have d3 : ((N.length : Int) != (b.length : Int)) = false := bne_eq_false_iff_eq.mpr (by omega)
  have d4 : ((N.length : Int) == (b.length : Int)) = true := beq_iff_eq.mpr (by omega)
  have d5 : decide (N.length = b.length) = true := decide_eq_true hnl
  clear em va vb hi hl vl ev hL hlu hla hlb hC hc hD hd hw hu hnl
  rcases in_range a k with ⟨ja, ra⟩ | ⟨ja, ra⟩ <;> rcases in_range b k with ⟨jb, rb⟩ | ⟨jb, rb⟩ <;> have HJA := Aside0.mk ja <;> have HJB := Aside0.mk jb
  · have HSA := Aside0.mk (hSA ra)
    have HSB := Aside0.mk (hSB rb)
    have HKR := Aside0.mk rb
    have f1 : decide ((0 : Int) ≤ k) = true := decide_eq_true rb.1
    have f2 : decide (k < (b.length : Int)) = true := decide_eq_true rb.2
    have f3 : ((0 : Int) ≤ k) = True := eq_true rb.1
    have f4 : (k < (b.length : Int)) = True := eq_true rb.2
    have f5 : decide (k < (N.length : Int)) = true := decide_eq_true (by have := rb.2; have := HNB.out; omega)
    have f6 : (k < (N.length : Int)) = True := eq_true (by have := rb.2; have := HNB.out; omega)
    clear ja jb ra rb hSA hSB
    go_enter Try.func9, Try.ntmps9
    go_wp2_with (first
      | (go_at_call 10; refine (ex_calls _).mono ?_; rintro e W2 ⟨rfl, hb⟩; have n_ := Aside0.mk (HE.out.step hb); clear HE hb; have HE := n_; clear n_)
      | (go_at_call 21; refine (records_Merge.calls km _ _ a _ _ b L N 0 0 _ (Kd.C_below HCC.out HE.out.bel) HCL.out (Kd.C_below HDD.out HE.out.bel) HDL.out HM.out).mono ?_; rintro e W2 ⟨v0, v1, rfl, hr0, hr1, hb⟩; obtain ⟨AL, cL, rfl, hl0, hC0⟩ := Kd.R_reads hr0; obtain ⟨AN, cN, rfl, hl1, hC1⟩ := Kd.R_reads hr1; have HL0 := Aside0.mk hl0; have HL1 := Aside0.mk hl1; have HC0 := Aside0.mk hC0; have HC1 := Aside0.mk hC1; have HF := Aside0.mk (Lx.start W2); have n_ := Aside0.mk (HE.out.step hb); clear HE hb hr0 hr1 hl0 hl1 hC0 hC1; have HE := n_; clear n_)
      | ((with_reducible refine gate_dst (N := 9) rfl ?_); refine box_event ?hg (N := 9) ?hd (cs := #[.int .i64 0, .int .i64 0]) (t := 25) ?hr ?_; (case hd => rfl); (case hg => rfl); (case hr => first | (go_simp; done) | (go_simp; rfl)); intro g9 hg W7 hbx hb7; have hz0 := (blk_cell hbx 0).trans rfl; have hz1 := (blk_cell hbx 1).trans rfl; have hy0 := blk_frozen hbx 0; have hy1 := blk_frozen hbx 1; have HX := Aside0.mk (And.intro hg (And.intro hbx hb7)); clear hbx hb7 hg)
      | ((with_reducible refine gate_store (t := 25) (p := 9) rfl ?_); refine store_event (t := 25) (p := 9) (v := .tmp 22) (w1 := ((W7.setCell ⟨g9, 0, none⟩ (.int .i64 (0))).setCell ⟨g9, 1, none⟩ (.int .i64 (0)))) ?hg ?ho ?hn ?hr ?_; (case ho => rfl); (case hg => rfl); (case hn => rfl); (case hr => first | (go_simp; done) | (go_simp; rfl)); intro W8 hw8; have m_ := Aside0.mk (HF.out.boxed HX.out.1 HX.out.2.1 HX.out.2.2 hw8); have n_ := Aside0.mk (HE.out.boxed HX.out.1 HX.out.2.1 HX.out.2.2 hw8); clear HE HF HX hw8 hz0 hz1 hy0 hy1; have HE := n_; have HF := m_; clear n_ m_; have p9 := (blk_cell (HE.out.box (g9, 0, 0) (by simp)) 0).trans rfl; have q9 := (blk_cell (HE.out.box (g9, 0, 0) (by simp)) 1).trans rfl)
      | (go_at_call 11; refine (records_Validate.calls kv _ _ L 0 0 _ (Kd.C_below HC0.out HF.out.bel) HL0.out HVL.out).mono ?_; rintro e W2 ⟨rfl, hb⟩; have n_ := Aside0.mk (HE.out.step hb); have m_ := Aside0.mk (HF.out.step hb); clear HE HF hb; have HE := n_; have HF := m_; clear n_ m_)
      | (go_at_call 20; (with_reducible show Calls Try.prog 20 #[.int .i64 k, .int .i64 0, .int .i64 (wrap64 ((a.length : Int) - 1))] _ _); refine (linkhouseref1_In.calls k 0 _ true _ (by rw [HN1.out]; exact HJA.out)).mono ?_; rintro e W4 ⟨rfl, ⟨nd, rfl⟩⟩; have n_ := Aside0.mk (HE.out.step (pw_below_drewN (Below.refl _ _) nd)); have m_ := Aside0.mk (HF.out.step (pw_below_drewN (Below.refl _ _) nd)); clear HE HF; have HE := n_; have HF := m_; clear n_ m_)
      | (go_at_call 18; (with_reducible show Calls Try.prog 18 #[.slice A a.length c, .int .i64 k, .slice AL L.length cL, .int .i64 k] _ _); refine (same_calls _ _ _ a (Kd.C_below HCC.out HE.out.bel) HCL.out HW.out k _ _ L (Kd.C_below HC0.out HF.out.bel) HL0.out HWL.out k true 0 0 HSA.out).mono ?_; rintro e W2 ⟨rfl, hb⟩; have n_ := Aside0.mk (HE.out.step hb); have m_ := Aside0.mk (HF.out.step hb); clear HE HF hb; have HE := n_; have HF := m_; clear n_ m_)
      | ((with_reducible refine gate_dst (N := 11) rfl ?_); refine box_event ?hg (N := 11) ?hd (cs := #[.int .i64 0, .int .i64 0]) (t := 25) ?hr ?_; (case hd => rfl); (case hg => rfl); (case hr => first | (go_simp; done) | (go_simp; rfl)); intro g11 hg W7 hbx hb7; have hz0 := (blk_cell hbx 0).trans rfl; have hz1 := (blk_cell hbx 1).trans rfl; have hy0 := blk_frozen hbx 0; have hy1 := blk_frozen hbx 1; have HX := Aside0.mk (And.intro hg (And.intro hbx hb7)); clear hbx hb7 hg)
      | ((with_reducible refine gate_store (t := 25) (p := 11) rfl ?_); refine store_event (t := 25) (p := 11) (v := .tmp 62) (w1 := ((W7.setCell ⟨g11, 0, none⟩ (.int .i64 (0))).setCell ⟨g11, 1, none⟩ (.int .i64 (0)))) ?hg ?ho ?hn ?hr ?_; (case ho => rfl); (case hg => rfl); (case hn => rfl); (case hr => first | (go_simp; done) | (go_simp; rfl)); intro W8 hw8; have m_ := Aside0.mk (HF.out.boxed HX.out.1 HX.out.2.1 HX.out.2.2 hw8); have n_ := Aside0.mk (HE.out.boxed HX.out.1 HX.out.2.1 HX.out.2.2 hw8); clear HE HF HX hw8 hz0 hz1 hy0 hy1; have HE := n_; have HF := m_; clear n_ m_; have p11 := (blk_cell (HE.out.box (g11, 0, 0) (by simp)) 0).trans rfl; have q11 := (blk_cell (HE.out.box (g11, 0, 0) (by simp)) 1).trans rfl)
      | (go_at_call 20; (with_reducible show Calls Try.prog 20 #[.int .i64 k, .int .i64 0, .int .i64 (wrap64 ((b.length : Int) - 1))] _ _); refine (linkhouseref1_In.calls k 0 _ true _ (by rw [HN2.out]; exact HJB.out)).mono ?_; rintro e W4 ⟨rfl, ⟨nd, rfl⟩⟩; have n_ := Aside0.mk (HE.out.step (pw_below_drewN (Below.refl _ _) nd)); have m_ := Aside0.mk (HF.out.step (pw_below_drewN (Below.refl _ _) nd)); clear HE HF; have HE := n_; have HF := m_; clear n_ m_; obtain ⟨an, eN, hn⟩ := Kd.at_int (Kd.C_below HC1.out HF.out.bel) k HKR.out.1 (by have h := HKR.out.2; have h2 := HNB.out; omega); subst eN)
      | (go_at_call 18; (with_reducible show Calls Try.prog 18 #[.slice B b.length d, .int .i64 k, .slice AL L.length cL, .int .i64 (rd N k)] _ _); refine (same_calls _ _ _ b (Kd.C_below HDD.out HE.out.bel) HDL.out HU.out k _ _ L (Kd.C_below HC0.out HF.out.bel) HL0.out HWL.out (rd N k) true 0 0 HSB.out).mono ?_; rintro e W2 ⟨rfl, hb⟩; have n_ := Aside0.mk (HE.out.step hb); have m_ := Aside0.mk (HF.out.step hb); clear HE HF hb; have HE := n_; have HF := m_; clear n_ m_)
      | ((with_reducible refine gate_dst (N := 13) rfl ?_); refine box_event ?hg (N := 13) ?hd (cs := #[.int .i64 0, .int .i64 0]) (t := 25) ?hr ?_; (case hd => rfl); (case hg => rfl); (case hr => first | (go_simp; done) | (go_simp; rfl)); intro g13 hg W7 hbx hb7; have hz0 := (blk_cell hbx 0).trans rfl; have hz1 := (blk_cell hbx 1).trans rfl; have hy0 := blk_frozen hbx 0; have hy1 := blk_frozen hbx 1; have HX := Aside0.mk (And.intro hg (And.intro hbx hb7)); clear hbx hb7 hg)
      | ((with_reducible refine gate_store (t := 25) (p := 13) rfl ?_); refine store_event (t := 25) (p := 13) (v := .tmp 85) (w1 := ((W7.setCell ⟨g13, 0, none⟩ (.int .i64 (0))).setCell ⟨g13, 1, none⟩ (.int .i64 (0)))) ?hg ?ho ?hn ?hr ?_; (case ho => rfl); (case hg => rfl); (case hn => rfl); (case hr => first | (go_simp; done) | (go_simp; rfl)); intro W8 hw8; have m_ := Aside0.mk (HF.out.boxed HX.out.1 HX.out.2.1 HX.out.2.2 hw8); have n_ := Aside0.mk (HE.out.boxed HX.out.1 HX.out.2.1 HX.out.2.2 hw8); clear HE HF HX hw8 hz0 hz1 hy0 hy1; have HE := n_; have HF := m_; clear n_ m_; have p13 := (blk_cell (HE.out.box (g13, 0, 0) (by simp)) 0).trans rfl; have q13 := (blk_cell (HE.out.box (g13, 0, 0) (by simp)) 1).trans rfl))
    go_ret
    exact ⟨rfl, HE.out.bel⟩
  · have HSA := Aside0.mk (hSA ra)
    clear ja jb ra rb hSA hSB
    go_enter Try.func9, Try.ntmps9
    go_wp2_with (first
      | (go_at_call 10; refine (ex_calls _).mono ?_; rintro e W2 ⟨rfl, hb⟩; have n_ := Aside0.mk (HE.out.step hb); clear HE hb; have HE := n_; clear n_)
      | (go_at_call 21; refine (records_Merge.calls km _ _ a _ _ b L N 0 0 _ (Kd.C_below HCC.out HE.out.bel) HCL.out (Kd.C_below HDD.out HE.out.bel) HDL.out HM.out).mono ?_; rintro e W2 ⟨v0, v1, rfl, hr0, hr1, hb⟩; obtain ⟨AL, cL, rfl, hl0, hC0⟩ := Kd.R_reads hr0; obtain ⟨AN, cN, rfl, hl1, hC1⟩ := Kd.R_reads hr1; have HL0 := Aside0.mk hl0; have HL1 := Aside0.mk hl1; have HC0 := Aside0.mk hC0; have HC1 := Aside0.mk hC1; have HF := Aside0.mk (Lx.start W2); have n_ := Aside0.mk (HE.out.step hb); clear HE hb hr0 hr1 hl0 hl1 hC0 hC1; have HE := n_; clear n_)
      | ((with_reducible refine gate_dst (N := 9) rfl ?_); refine box_event ?hg (N := 9) ?hd (cs := #[.int .i64 0, .int .i64 0]) (t := 25) ?hr ?_; (case hd => rfl); (case hg => rfl); (case hr => first | (go_simp; done) | (go_simp; rfl)); intro g9 hg W7 hbx hb7; have hz0 := (blk_cell hbx 0).trans rfl; have hz1 := (blk_cell hbx 1).trans rfl; have hy0 := blk_frozen hbx 0; have hy1 := blk_frozen hbx 1; have HX := Aside0.mk (And.intro hg (And.intro hbx hb7)); clear hbx hb7 hg)
      | ((with_reducible refine gate_store (t := 25) (p := 9) rfl ?_); refine store_event (t := 25) (p := 9) (v := .tmp 22) (w1 := ((W7.setCell ⟨g9, 0, none⟩ (.int .i64 (0))).setCell ⟨g9, 1, none⟩ (.int .i64 (0)))) ?hg ?ho ?hn ?hr ?_; (case ho => rfl); (case hg => rfl); (case hn => rfl); (case hr => first | (go_simp; done) | (go_simp; rfl)); intro W8 hw8; have m_ := Aside0.mk (HF.out.boxed HX.out.1 HX.out.2.1 HX.out.2.2 hw8); have n_ := Aside0.mk (HE.out.boxed HX.out.1 HX.out.2.1 HX.out.2.2 hw8); clear HE HF HX hw8 hz0 hz1 hy0 hy1; have HE := n_; have HF := m_; clear n_ m_; have p9 := (blk_cell (HE.out.box (g9, 0, 0) (by simp)) 0).trans rfl; have q9 := (blk_cell (HE.out.box (g9, 0, 0) (by simp)) 1).trans rfl)
      | (go_at_call 11; refine (records_Validate.calls kv _ _ L 0 0 _ (Kd.C_below HC0.out HF.out.bel) HL0.out HVL.out).mono ?_; rintro e W2 ⟨rfl, hb⟩; have n_ := Aside0.mk (HE.out.step hb); have m_ := Aside0.mk (HF.out.step hb); clear HE HF hb; have HE := n_; have HF := m_; clear n_ m_)
      | (go_at_call 20; (with_reducible show Calls Try.prog 20 #[.int .i64 k, .int .i64 0, .int .i64 (wrap64 ((a.length : Int) - 1))] _ _); refine (linkhouseref1_In.calls k 0 _ true _ (by rw [HN1.out]; exact HJA.out)).mono ?_; rintro e W4 ⟨rfl, ⟨nd, rfl⟩⟩; have n_ := Aside0.mk (HE.out.step (pw_below_drewN (Below.refl _ _) nd)); have m_ := Aside0.mk (HF.out.step (pw_below_drewN (Below.refl _ _) nd)); clear HE HF; have HE := n_; have HF := m_; clear n_ m_)
      | (go_at_call 18; (with_reducible show Calls Try.prog 18 #[.slice A a.length c, .int .i64 k, .slice AL L.length cL, .int .i64 k] _ _); refine (same_calls _ _ _ a (Kd.C_below HCC.out HE.out.bel) HCL.out HW.out k _ _ L (Kd.C_below HC0.out HF.out.bel) HL0.out HWL.out k true 0 0 HSA.out).mono ?_; rintro e W2 ⟨rfl, hb⟩; have n_ := Aside0.mk (HE.out.step hb); have m_ := Aside0.mk (HF.out.step hb); clear HE HF hb; have HE := n_; have HF := m_; clear n_ m_)
      | ((with_reducible refine gate_dst (N := 11) rfl ?_); refine box_event ?hg (N := 11) ?hd (cs := #[.int .i64 0, .int .i64 0]) (t := 25) ?hr ?_; (case hd => rfl); (case hg => rfl); (case hr => first | (go_simp; done) | (go_simp; rfl)); intro g11 hg W7 hbx hb7; have hz0 := (blk_cell hbx 0).trans rfl; have hz1 := (blk_cell hbx 1).trans rfl; have hy0 := blk_frozen hbx 0; have hy1 := blk_frozen hbx 1; have HX := Aside0.mk (And.intro hg (And.intro hbx hb7)); clear hbx hb7 hg)
      | ((with_reducible refine gate_store (t := 25) (p := 11) rfl ?_); refine store_event (t := 25) (p := 11) (v := .tmp 62) (w1 := ((W7.setCell ⟨g11, 0, none⟩ (.int .i64 (0))).setCell ⟨g11, 1, none⟩ (.int .i64 (0)))) ?hg ?ho ?hn ?hr ?_; (case ho => rfl); (case hg => rfl); (case hn => rfl); (case hr => first | (go_simp; done) | (go_simp; rfl)); intro W8 hw8; have m_ := Aside0.mk (HF.out.boxed HX.out.1 HX.out.2.1 HX.out.2.2 hw8); have n_ := Aside0.mk (HE.out.boxed HX.out.1 HX.out.2.1 HX.out.2.2 hw8); clear HE HF HX hw8 hz0 hz1 hy0 hy1; have HE := n_; have HF := m_; clear n_ m_; have p11 := (blk_cell (HE.out.box (g11, 0, 0) (by simp)) 0).trans rfl; have q11 := (blk_cell (HE.out.box (g11, 0, 0) (by simp)) 1).trans rfl)
      | (go_at_call 20; (with_reducible show Calls Try.prog 20 #[.int .i64 k, .int .i64 0, .int .i64 (wrap64 ((b.length : Int) - 1))] _ _); refine (linkhouseref1_In.calls k 0 _ false _ (by rw [HN2.out]; exact HJB.out)).mono ?_; rintro e W4 ⟨rfl, ⟨nd, rfl⟩⟩; have n_ := Aside0.mk (HE.out.step (pw_below_drewN (Below.refl _ _) nd)); have m_ := Aside0.mk (HF.out.step (pw_below_drewN (Below.refl _ _) nd)); clear HE HF; have HE := n_; have HF := m_; clear n_ m_))
    go_ret
    exact ⟨rfl, HE.out.bel⟩
  · have HSB := Aside0.mk (hSB rb)
    have HKR := Aside0.mk rb
    have f1 : decide ((0 : Int) ≤ k) = true := decide_eq_true rb.1
    have f2 : decide (k < (b.length : Int)) = true := decide_eq_true rb.2
    have f3 : ((0 : Int) ≤ k) = True := eq_true rb.1
    have f4 : (k < (b.length : Int)) = True := eq_true rb.2
    have f5 : decide (k < (N.length : Int)) = true := decide_eq_true (by have := rb.2; have := HNB.out; omega)
    have f6 : (k < (N.length : Int)) = True := eq_true (by have := rb.2; have := HNB.out; omega)
    clear ja jb ra rb hSA hSB
    go_enter Try.func9, Try.ntmps9
    go_wp2_with (first
      | (go_at_call 10; refine (ex_calls _).mono ?_; rintro e W2 ⟨rfl, hb⟩; have n_ := Aside0.mk (HE.out.step hb); clear HE hb; have HE := n_; clear n_)
      | (go_at_call 21; refine (records_Merge.calls km _ _ a _ _ b L N 0 0 _ (Kd.C_below HCC.out HE.out.bel) HCL.out (Kd.C_below HDD.out HE.out.bel) HDL.out HM.out).mono ?_; rintro e W2 ⟨v0, v1, rfl, hr0, hr1, hb⟩; obtain ⟨AL, cL, rfl, hl0, hC0⟩ := Kd.R_reads hr0; obtain ⟨AN, cN, rfl, hl1, hC1⟩ := Kd.R_reads hr1; have HL0 := Aside0.mk hl0; have HL1 := Aside0.mk hl1; have HC0 := Aside0.mk hC0; have HC1 := Aside0.mk hC1; have HF := Aside0.mk (Lx.start W2); have n_ := Aside0.mk (HE.out.step hb); clear HE hb hr0 hr1 hl0 hl1 hC0 hC1; have HE := n_; clear n_)
      | ((with_reducible refine gate_dst (N := 9) rfl ?_); refine box_event ?hg (N := 9) ?hd (cs := #[.int .i64 0, .int .i64 0]) (t := 25) ?hr ?_; (case hd => rfl); (case hg => rfl); (case hr => first | (go_simp; done) | (go_simp; rfl)); intro g9 hg W7 hbx hb7; have hz0 := (blk_cell hbx 0).trans rfl; have hz1 := (blk_cell hbx 1).trans rfl; have hy0 := blk_frozen hbx 0; have hy1 := blk_frozen hbx 1; have HX := Aside0.mk (And.intro hg (And.intro hbx hb7)); clear hbx hb7 hg)
      | ((with_reducible refine gate_store (t := 25) (p := 9) rfl ?_); refine store_event (t := 25) (p := 9) (v := .tmp 22) (w1 := ((W7.setCell ⟨g9, 0, none⟩ (.int .i64 (0))).setCell ⟨g9, 1, none⟩ (.int .i64 (0)))) ?hg ?ho ?hn ?hr ?_; (case ho => rfl); (case hg => rfl); (case hn => rfl); (case hr => first | (go_simp; done) | (go_simp; rfl)); intro W8 hw8; have m_ := Aside0.mk (HF.out.boxed HX.out.1 HX.out.2.1 HX.out.2.2 hw8); have n_ := Aside0.mk (HE.out.boxed HX.out.1 HX.out.2.1 HX.out.2.2 hw8); clear HE HF HX hw8 hz0 hz1 hy0 hy1; have HE := n_; have HF := m_; clear n_ m_; have p9 := (blk_cell (HE.out.box (g9, 0, 0) (by simp)) 0).trans rfl; have q9 := (blk_cell (HE.out.box (g9, 0, 0) (by simp)) 1).trans rfl)
      | (go_at_call 11; refine (records_Validate.calls kv _ _ L 0 0 _ (Kd.C_below HC0.out HF.out.bel) HL0.out HVL.out).mono ?_; rintro e W2 ⟨rfl, hb⟩; have n_ := Aside0.mk (HE.out.step hb); have m_ := Aside0.mk (HF.out.step hb); clear HE HF hb; have HE := n_; have HF := m_; clear n_ m_)
      | (go_at_call 20; (with_reducible show Calls Try.prog 20 #[.int .i64 k, .int .i64 0, .int .i64 (wrap64 ((a.length : Int) - 1))] _ _); refine (linkhouseref1_In.calls k 0 _ false _ (by rw [HN1.out]; exact HJA.out)).mono ?_; rintro e W4 ⟨rfl, ⟨nd, rfl⟩⟩; have n_ := Aside0.mk (HE.out.step (pw_below_drewN (Below.refl _ _) nd)); have m_ := Aside0.mk (HF.out.step (pw_below_drewN (Below.refl _ _) nd)); clear HE HF; have HE := n_; have HF := m_; clear n_ m_)
      | (go_at_call 20; (with_reducible show Calls Try.prog 20 #[.int .i64 k, .int .i64 0, .int .i64 (wrap64 ((b.length : Int) - 1))] _ _); refine (linkhouseref1_In.calls k 0 _ true _ (by rw [HN2.out]; exact HJB.out)).mono ?_; rintro e W4 ⟨rfl, ⟨nd, rfl⟩⟩; have n_ := Aside0.mk (by have h := HE.out.step (pw_below_drewN (Below.refl _ _) nd); rwa [World.drewN_drewN] at h); have m_ := Aside0.mk (by have h := HF.out.step (pw_below_drewN (Below.refl _ _) nd); rwa [World.drewN_drewN] at h); clear HE HF; have HE := n_; have HF := m_; clear n_ m_; obtain ⟨an, eN, hn⟩ := Kd.at_int (Kd.C_below HC1.out HF.out.bel) k HKR.out.1 (by have h := HKR.out.2; have h2 := HNB.out; omega); subst eN)
      | (go_at_call 18; (with_reducible show Calls Try.prog 18 #[.slice B b.length d, .int .i64 k, .slice AL L.length cL, .int .i64 (rd N k)] _ _); refine (same_calls _ _ _ b (Kd.C_below HDD.out HE.out.bel) HDL.out HU.out k _ _ L (Kd.C_below HC0.out HF.out.bel) HL0.out HWL.out (rd N k) true 0 0 HSB.out).mono ?_; rintro e W2 ⟨rfl, hb⟩; have n_ := Aside0.mk (HE.out.step hb); have m_ := Aside0.mk (HF.out.step hb); clear HE HF hb; have HE := n_; have HF := m_; clear n_ m_)
      | ((with_reducible refine gate_dst (N := 13) rfl ?_); refine box_event ?hg (N := 13) ?hd (cs := #[.int .i64 0, .int .i64 0]) (t := 25) ?hr ?_; (case hd => rfl); (case hg => rfl); (case hr => first | (go_simp; done) | (go_simp; rfl)); intro g13 hg W7 hbx hb7; have hz0 := (blk_cell hbx 0).trans rfl; have hz1 := (blk_cell hbx 1).trans rfl; have hy0 := blk_frozen hbx 0; have hy1 := blk_frozen hbx 1; have HX := Aside0.mk (And.intro hg (And.intro hbx hb7)); clear hbx hb7 hg)
      | ((with_reducible refine gate_store (t := 25) (p := 13) rfl ?_); refine store_event (t := 25) (p := 13) (v := .tmp 85) (w1 := ((W7.setCell ⟨g13, 0, none⟩ (.int .i64 (0))).setCell ⟨g13, 1, none⟩ (.int .i64 (0)))) ?hg ?ho ?hn ?hr ?_; (case ho => rfl); (case hg => rfl); (case hn => rfl); (case hr => first | (go_simp; done) | (go_simp; rfl)); intro W8 hw8; have m_ := Aside0.mk (HF.out.boxed HX.out.1 HX.out.2.1 HX.out.2.2 hw8); have n_ := Aside0.mk (HE.out.boxed HX.out.1 HX.out.2.1 HX.out.2.2 hw8); clear HE HF HX hw8 hz0 hz1 hy0 hy1; have HE := n_; have HF := m_; clear n_ m_; have p13 := (blk_cell (HE.out.box (g13, 0, 0) (by simp)) 0).trans rfl; have q13 := (blk_cell (HE.out.box (g13, 0, 0) (by simp)) 1).trans rfl))
    go_ret
    exact ⟨rfl, HE.out.bel⟩
  · clear ja jb ra rb hSA hSB
    go_enter Try.func9, Try.ntmps9
    go_wp2_with (first
      | (go_at_call 10; refine (ex_calls _).mono ?_; rintro e W2 ⟨rfl, hb⟩; have n_ := Aside0.mk (HE.out.step hb); clear HE hb; have HE := n_; clear n_)
      | (go_at_call 21; refine (records_Merge.calls km _ _ a _ _ b L N 0 0 _ (Kd.C_below HCC.out HE.out.bel) HCL.out (Kd.C_below HDD.out HE.out.bel) HDL.out HM.out).mono ?_; rintro e W2 ⟨v0, v1, rfl, hr0, hr1, hb⟩; obtain ⟨AL, cL, rfl, hl0, hC0⟩ := Kd.R_reads hr0; obtain ⟨AN, cN, rfl, hl1, hC1⟩ := Kd.R_reads hr1; have HL0 := Aside0.mk hl0; have HL1 := Aside0.mk hl1; have HC0 := Aside0.mk hC0; have HC1 := Aside0.mk hC1; have HF := Aside0.mk (Lx.start W2); have n_ := Aside0.mk (HE.out.step hb); clear HE hb hr0 hr1 hl0 hl1 hC0 hC1; have HE := n_; clear n_)
      | ((with_reducible refine gate_dst (N := 9) rfl ?_); refine box_event ?hg (N := 9) ?hd (cs := #[.int .i64 0, .int .i64 0]) (t := 25) ?hr ?_; (case hd => rfl); (case hg => rfl); (case hr => first | (go_simp; done) | (go_simp; rfl)); intro g9 hg W7 hbx hb7; have hz0 := (blk_cell hbx 0).trans rfl; have hz1 := (blk_cell hbx 1).trans rfl; have hy0 := blk_frozen hbx 0; have hy1 := blk_frozen hbx 1; have HX := Aside0.mk (And.intro hg (And.intro hbx hb7)); clear hbx hb7 hg)
      | ((with_reducible refine gate_store (t := 25) (p := 9) rfl ?_); refine store_event (t := 25) (p := 9) (v := .tmp 22) (w1 := ((W7.setCell ⟨g9, 0, none⟩ (.int .i64 (0))).setCell ⟨g9, 1, none⟩ (.int .i64 (0)))) ?hg ?ho ?hn ?hr ?_; (case ho => rfl); (case hg => rfl); (case hn => rfl); (case hr => first | (go_simp; done) | (go_simp; rfl)); intro W8 hw8; have m_ := Aside0.mk (HF.out.boxed HX.out.1 HX.out.2.1 HX.out.2.2 hw8); have n_ := Aside0.mk (HE.out.boxed HX.out.1 HX.out.2.1 HX.out.2.2 hw8); clear HE HF HX hw8 hz0 hz1 hy0 hy1; have HE := n_; have HF := m_; clear n_ m_; have p9 := (blk_cell (HE.out.box (g9, 0, 0) (by simp)) 0).trans rfl; have q9 := (blk_cell (HE.out.box (g9, 0, 0) (by simp)) 1).trans rfl)
      | (go_at_call 11; refine (records_Validate.calls kv _ _ L 0 0 _ (Kd.C_below HC0.out HF.out.bel) HL0.out HVL.out).mono ?_; rintro e W2 ⟨rfl, hb⟩; have n_ := Aside0.mk (HE.out.step hb); have m_ := Aside0.mk (HF.out.step hb); clear HE HF hb; have HE := n_; have HF := m_; clear n_ m_)
      | (go_at_call 20; (with_reducible show Calls Try.prog 20 #[.int .i64 k, .int .i64 0, .int .i64 (wrap64 ((a.length : Int) - 1))] _ _); refine (linkhouseref1_In.calls k 0 _ false _ (by rw [HN1.out]; exact HJA.out)).mono ?_; rintro e W4 ⟨rfl, ⟨nd, rfl⟩⟩; have n_ := Aside0.mk (HE.out.step (pw_below_drewN (Below.refl _ _) nd)); have m_ := Aside0.mk (HF.out.step (pw_below_drewN (Below.refl _ _) nd)); clear HE HF; have HE := n_; have HF := m_; clear n_ m_)
      | (go_at_call 20; (with_reducible show Calls Try.prog 20 #[.int .i64 k, .int .i64 0, .int .i64 (wrap64 ((b.length : Int) - 1))] _ _); refine (linkhouseref1_In.calls k 0 _ false _ (by rw [HN2.out]; exact HJB.out)).mono ?_; rintro e W4 ⟨rfl, ⟨nd, rfl⟩⟩; have n_ := Aside0.mk (by have h := HE.out.step (pw_below_drewN (Below.refl _ _) nd); rwa [World.drewN_drewN] at h); have m_ := Aside0.mk (by have h := HF.out.step (pw_below_drewN (Below.refl _ _) nd); rwa [World.drewN_drewN] at h); clear HE HF; have HE := n_; have HF := m_; clear n_ m_))
    go_ret
    exact ⟨rfl, HE.out.bel⟩
end Go.Proofs.Ytpmlcmdojmdmhaa.PR
