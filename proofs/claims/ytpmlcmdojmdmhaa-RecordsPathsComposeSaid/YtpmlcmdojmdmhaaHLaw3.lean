/- What the law RecordsPathsCompose returns: true. -/
import Derived.Test.YtpmlcmdojmdmhaaHEx
set_option linter.unusedVariables false
set_option linter.unusedSimpArgs false
set_option maxRecDepth 100000
namespace Go.Proofs.Ytpmlcmdojmdmhaa.PR
open Go.RowKit Go.Proofs.YtpmlcmdojmdmhaaW.PrintWords Go.Proofs.YtpmlcmdojmdmhaaW.PrintLast Go.Proofs.YtpmlcmdojmdmhaaW.PrintMore

theorem fol_append (l : List S32) (b : List Int) : ∀ (a : List Int) (n t o x i : Int), fol l a n t o = (x, i, 0, 0) → fol l (a ++ b) n t o = fol l b (n + a.length) x i := by
  intro a
  induction a with
  | nil =>
    intro n t o x i h
    rw [fol] at h
    obtain ⟨rfl, rfl⟩ : t = x ∧ o = i := by simpa using h
    simp
  | cons k ks ih =>
    intro n t o x i h
    have e : n + ((k :: ks).length : Int) = n + 1 + (ks.length : Int) := by rw [List.length_cons]; omega
    rw [List.cons_append, fol, e]
    rw [fol] at h
    by_cases k4 : (rd_T32 l t).f0 = 4
    · rw [if_pos k4] at h ⊢
      by_cases c : 0 ≤ k ∧ k < ((rd_T32 l t).f5.length : Int)
      · rw [if_pos c] at h ⊢; exact ih _ _ _ _ _ h
      · rw [if_neg c] at h; simp at h
    · rw [if_neg k4] at h ⊢
      by_cases k3 : (rd_T32 l t).f0 = 3
      · rw [if_pos k3] at h ⊢
        by_cases c : 0 ≤ k ∧ k < (rd_T32 l t).f4
        · rw [if_pos c] at h ⊢; exact ih _ _ _ _ _ h
        · rw [if_neg c] at h; simp at h
      · rw [if_neg k3] at h; simp at h
/-- Where a path that can be followed ends; elsewhere the code is an error's. -/
theorem fol_shape {l : List S32} (hv : Valid l) : ∀ (a : List Int) (n t o x i c d : Int), 0 ≤ t → t < (l.length : Int) → fol l a n t o = (x, i, c, d) →
    (c = 0 ∧ d = 0 ∧ 0 ≤ x ∧ x < (l.length : Int) ∧ o ≤ i ∧ i + sz l x ≤ o + sz l t ∧ ∀ n' o', fol l a n' t o' = (x, o' + (i - o), 0, 0)) ∨
    ((c = 3 ∨ c = 8) ∧ x = 0 ∧ i = 0 ∧ ∀ n' o', ∃ d', fol l a n' t o' = (0, 0, c, d')) := by
  intro a
  induction a with
  | nil =>
    intro n t o x i c d t0 t1 h
    rw [fol] at h
    obtain ⟨rfl, rfl, rfl, rfl⟩ : t = x ∧ o = i ∧ 0 = c ∧ 0 = d := by simpa using h
    exact .inl ⟨rfl, rfl, t0, t1, by omega, by omega, fun n' o' => by rw [fol]; congr 2; omega⟩
  | cons k ks ih =>
    intro n t o x i c d t0 t1 h
    rw [fol] at h
    by_cases k4 : (rd_T32 l t).f0 = 4
    · rw [if_pos k4] at h
      by_cases q : 0 ≤ k ∧ k < ((rd_T32 l t).f5.length : Int)
      · rw [if_pos q] at h
        obtain ⟨a0, a1, a2, a3⟩ := hv.fld t0 t1 q.1 q.2
        rcases ih _ _ _ _ _ _ _ a0 (by omega) h with ⟨b0, b1, b2, b3, b4, b5, b6⟩ | ⟨b0, b1, b2, b3⟩
        · refine .inl ⟨b0, b1, b2, b3, by omega, by omega, fun n' o' => ?_⟩
          rw [fol, if_pos k4, if_pos q, b6]
          congr 2
          omega
        · refine .inr ⟨b0, b1, b2, fun n' o' => ?_⟩
          rw [fol, if_pos k4, if_pos q]
          exact b3 _ _
      · rw [if_neg q] at h
        obtain ⟨rfl, rfl, rfl, rfl⟩ : 0 = x ∧ 0 = i ∧ 3 = c ∧ n = d := by simpa using h
        exact .inr ⟨.inl rfl, rfl, rfl, fun n' o' => ⟨n', by rw [fol, if_pos k4, if_neg q]⟩⟩
    · rw [if_neg k4] at h
      by_cases k3 : (rd_T32 l t).f0 = 3
      · rw [if_pos k3] at h
        by_cases q : 0 ≤ k ∧ k < (rd_T32 l t).f4
        · rw [if_pos q] at h
          obtain ⟨a0, a1, a2, a3⟩ := hv.elt t0 t1 k3 q.1 q.2
          rcases ih _ _ _ _ _ _ _ a0 (by omega) h with ⟨b0, b1, b2, b3, b4, b5, b6⟩ | ⟨b0, b1, b2, b3⟩
          · refine .inl ⟨b0, b1, b2, b3, by omega, by omega, fun n' o' => ?_⟩
            rw [fol, if_neg k4, if_pos k3, if_pos q, b6]
            congr 2
            omega
          · refine .inr ⟨b0, b1, b2, fun n' o' => ?_⟩
            rw [fol, if_neg k4, if_pos k3, if_pos q]
            exact b3 _ _
        · rw [if_neg q] at h
          obtain ⟨rfl, rfl, rfl, rfl⟩ : 0 = x ∧ 0 = i ∧ 3 = c ∧ n = d := by simpa using h
          exact .inr ⟨.inl rfl, rfl, rfl, fun n' o' => ⟨n', by rw [fol, if_neg k4, if_pos k3, if_neg q]⟩⟩
      · rw [if_neg k3] at h
        obtain ⟨rfl, rfl, rfl, rfl⟩ : 0 = x ∧ 0 = i ∧ 8 = c ∧ n = d := by simpa using h
        exact .inr ⟨.inr rfl, rfl, rfl, fun n' o' => ⟨n', by rw [fol, if_neg k4, if_neg k3]⟩⟩
theorem path_bad {l : List S32} {t : Int} {p : List Int} {x i c d : Int} (h : path l t p = (x, i, c, d)) (hc : c ≠ 0) : x = 0 ∧ i = 0 := by
  unfold path at h
  by_cases hz : (fault2 l t).1 = 0
  · rw [if_pos hz] at h
    obtain ⟨hv, t0, t1⟩ := fault2_zero.1 hz
    by_cases hp : p.length > 30
    · rw [if_pos hp] at h
      obtain ⟨rfl, rfl, _⟩ : 0 = x ∧ 0 = i ∧ True := by simp at h; exact ⟨h.1, h.2.1, trivial⟩
      exact ⟨rfl, rfl⟩
    · rw [if_neg hp] at h
      rcases fol_shape hv _ _ _ _ _ _ _ _ t0 t1 h with q | q
      · exact absurd q.1 hc
      · exact ⟨q.2.1, q.2.2.1⟩
  · rw [if_neg hz] at h
    simp at h
    exact ⟨h.1.symm, h.2.1.symm⟩
/-- The law of two parts. -/
theorem path_compose {l : List S32} {t : Int} {a b : List Int} {x i f2 : Int} (h1 : path l t a = (x, i, 0, f2)) {y k g1 g2 z n h2 h3 : Int} (h4 : path l x b = (y, k, g1, g2)) (h5 : path l t (a ++ b) = (z, n, h2, h3)) :
    Valid l ∧ 0 ≤ t ∧ t < (l.length : Int) ∧ f2 = 0 ∧
    ((g1 = 0 ∧ h2 = 0 ∧ g2 = 0 ∧ h3 = 0 ∧ y = z ∧ i + k = n ∧ 0 ≤ i ∧ 0 ≤ k ∧ 0 ≤ z ∧ z < (l.length : Int) ∧ n + sz l z ≤ sz l t) ∨
     (g1 = 0 ∧ h2 = 2) ∨ (g1 ≠ 0 ∧ h2 ≠ 0)) := by
  unfold path at h1 h4 h5
  by_cases hz : (fault2 l t).1 = 0
  · obtain ⟨hv, t0, t1⟩ := fault2_zero.1 hz
    rw [if_pos hz] at h1 h5
    by_cases la : a.length > 30
    · rw [if_pos la] at h1; simp at h1
    rw [if_neg la] at h1
    rcases fol_shape hv _ _ _ _ _ _ _ _ t0 t1 h1 with ⟨_, e0, x0, x1, i0, i1, _⟩ | ⟨q, _⟩
    · subst e0
      have hx : (fault2 l x).1 = 0 := fault2_zero.2 ⟨hv, x0, x1⟩
      rw [if_pos hx] at h4
      refine ⟨hv, t0, t1, rfl, ?_⟩
      by_cases lb : b.length > 30
      · rw [if_pos lb] at h4
        rw [if_pos (by rw [List.length_append]; omega)] at h5
        simp at h4 h5
        exact .inr (.inr ⟨by omega, by omega⟩)
      · rw [if_neg lb] at h4
        have hb := fol_shape hv _ _ _ _ _ _ _ _ x0 x1 h4
        by_cases lab : (a ++ b).length > 30
        · rw [if_pos lab] at h5
          simp at h5
          rcases hb with q | q
          · exact .inr (.inl ⟨q.1, by omega⟩)
          · exact .inr (.inr ⟨by omega, by omega⟩)
        · rw [if_neg lab, fol_append l b a _ _ _ _ _ h1] at h5
          rcases hb with ⟨q0, q1, q2, q3, q4, q5, q6⟩ | ⟨q0, _, _, q3⟩
          · rw [q6] at h5
            simp at h5
            obtain ⟨rfl, r1, r2, r3⟩ := h5
            exact .inl ⟨q0, r2.symm, q1, r3.symm, rfl, by omega, by omega, by omega, q2, q3, by omega⟩
          · obtain ⟨d', e⟩ := q3 (0 + (a.length : Int)) i
            rw [e] at h5
            simp at h5
            exact .inr (.inr ⟨by omega, by omega⟩)
    · omega
  · rw [if_neg hz] at h1
    simp at h1
    omega
attribute [local go_sem high] eqA25
theorem path_len {l : List S32} {t : Int} {a : List Int} {x i f2 : Int} (h : path l t a = (x, i, 0, f2)) : a.length ≤ 30 := by
  unfold path at h
  by_cases hz : (fault2 l t).1 = 0
  · rw [if_pos hz] at h
    by_cases la : a.length > 30
    · rw [if_pos la] at h; simp at h
    · omega
  · rw [if_neg hz] at h; simp at h; omega
set_option maxHeartbeats 1000000 in
theorem law3 (w : World) (A : Option Addr) (c : Nat) (l : List S32) (hC : Kd.C k32 w A l.length l) (hc : l.length ≤ c) (hw : WfL l) (t : Int) (_ : I64 t) (B : Option Addr) (d : Nat) (a : List Int) (hA : Kd.C (Kd.int .i64) w B a.length a) (hd : a.length ≤ d) (_ : ∀ x ∈ a, I64 x) (D : Option Addr) (e0 : Nat) (b : List Int) (hB : Kd.C (Kd.int .i64) w D b.length b) (he : b.length ≤ e0) (hbz : b.length * 8 ≤ 140737488351232) (_ : ∀ x ∈ b, I64 x) :
    Calls Try.prog 5 #[.slice A l.length c, .int .i64 t, .slice B a.length d, .slice D b.length e0] w fun e w' => e = .returned (.bool true) ∧ Below w.heap.size w w' := by
  obtain ⟨x, i, F1, F2, h1⟩ : ∃ x i p q, path l t a = (x, i, p, q) := ⟨_, _, _, _, rfl⟩
  have HCC := Aside0.mk hC
  have HCL := Aside0.mk hc
  have HW := Aside0.mk hw
  have HA := Aside0.mk hA
  have HAL := Aside0.mk hd
  have HBB := Aside0.mk hB
  have HBL := Aside0.mk he
  clear hC hc hA hd hB he
  have HE := Aside0.mk (Lx.start w)
  by_cases h0 : F1 = 0
  · subst h0
    obtain ⟨y, k, G1, G2, h2⟩ : ∃ y k p q, path l x b = (y, k, p, q) := ⟨_, _, _, _, rfl⟩
    obtain ⟨z, n, K1, K2, h3⟩ : ∃ z n p q, path l t (a ++ b) = (z, n, p, q) := ⟨_, _, _, _, rfl⟩
    have HLN := Aside0.mk (And.intro (path_len h1) hbz)
    obtain ⟨ab, hab⟩ : ∃ s, a ++ b = s := ⟨_, rfl⟩
    have HAB := Aside0.mk hab
    obtain ⟨hv, t0, t1, rfl, hcase⟩ := path_compose h1 h2 h3
    have HP1 := Aside0.mk h1
    have HP2 := Aside0.mk h2
    rw [hab] at h3
    have HP3 := Aside0.mk h3
    clear h1 h2 h3 hbz hab
    rcases hcase with ⟨rfl, rfl, rfl, rfl, rfl, hn, i0, k0, z0, z1, hs⟩ | ⟨rfl, rfl⟩ | ⟨hg, hk⟩
    · obtain ⟨ks, hs1⟩ := (size_ev hw t).rounds
      obtain ⟨ks', hs2⟩ := (size_ev hw y).rounds
      rw [if_pos (fault2_zero.2 ⟨hv, t0, t1⟩)] at hs1
      rw [if_pos (fault2_zero.2 ⟨hv, z0, z1⟩)] at hs2
      have HS1 := Aside0.mk hs1
      have HS2 := Aside0.mk hs2
      have m1 := hv.siz t0 t1
      have m2 := hv.siz z0 z1
      have e1 : wrap64 (i + k) = n := by rw [w64 (by omega) (by omega)]; exact hn
      have e2 : decide (0 ≤ n) = true := decide_eq_true (by omega)
      obtain ⟨S1, hS1⟩ : ∃ s, s = sz l t := ⟨_, rfl⟩
      obtain ⟨S2, hS2⟩ : ∃ s, s = sz l y := ⟨_, rfl⟩
      have e3 : decide (wrap64 (n + sz l y) ≤ sz l t) = true := decide_eq_true (by rw [w64 (by omega) (by omega)]; exact hs)
      clear hs1 hs2 m1 m2 hS1 hS2 hn i0 k0 z0 z1 hs hv t0 t1
      go_enter Try.func5, Try.ntmps5
      go_wp2_with (first
        | (go_at_call 10; refine (ex_calls _).mono ?_; rintro e W2 ⟨rfl, hb⟩; have n_ := Aside0.mk (HE.out.step hb); clear HE hb; have HE := n_; clear n_)
        | (go_at_call 15; (with_reducible show Calls Try.prog 15 #[.slice A l.length c, .int .i64 t, .slice B a.length d] _ _); refine (path_calls _ _ _ l (Kd.C_below HCC.out HE.out.bel) HCL.out HW.out t _ _ a (Kd.C_below HA.out HE.out.bel) HAL.out x i 0 0 HP1.out).mono ?_; rintro e W2 ⟨rfl, hb⟩; have n_ := Aside0.mk (HE.out.step hb); clear HE hb; have HE := n_; clear n_)
        | ((with_reducible refine gate_dst (N := 11) rfl ?_); refine box_event ?hg (N := 11) ?hd (cs := #[.int .i64 0, .int .i64 0]) (t := 25) ?hr ?_; (case hd => rfl); (case hg => rfl); (case hr => first | (go_simp; done) | (go_simp; rfl)); intro g11 hg W7 hbx hb7; have hz0 := (blk_cell hbx 0).trans rfl; have hz1 := (blk_cell hbx 1).trans rfl; have hy0 := blk_frozen hbx 0; have hy1 := blk_frozen hbx 1; have HX := Aside0.mk (And.intro hg (And.intro hbx hb7)); clear hbx hb7 hg)
        | ((with_reducible refine gate_store (t := 25) (p := 11) rfl ?_); refine store_event (t := 25) (p := 11) (v := .tmp 31) (w1 := ((W7.setCell ⟨g11, 0, none⟩ (.int .i64 (0))).setCell ⟨g11, 1, none⟩ (.int .i64 (0)))) ?hg ?ho ?hn ?hr ?_; (case ho => rfl); (case hg => rfl); (case hn => rfl); (case hr => first | (go_simp; done) | (go_simp; rfl)); intro W8 hw8; have n_ := Aside0.mk (HE.out.boxed HX.out.1 HX.out.2.1 HX.out.2.2 hw8); clear HE HX hw8 hz0 hz1 hy0 hy1; have HE := n_; clear n_; have p11 := (blk_cell (HE.out.box (g11, 0, 0) (by simp)) 0).trans rfl; have q11 := (blk_cell (HE.out.box (g11, 0, 0) (by simp)) 1).trans rfl)
        | (go_at_call 15; (with_reducible show Calls Try.prog 15 #[.slice A l.length c, .int .i64 x, .slice D b.length e0] _ _); refine (path_calls _ _ _ l (Kd.C_below HCC.out HE.out.bel) HCL.out HW.out x _ _ b (Kd.C_below HBB.out HE.out.bel) HBL.out y k 0 0 HP2.out).mono ?_; rintro e W2 ⟨rfl, hb⟩; have n_ := Aside0.mk (HE.out.step hb); clear HE hb; have HE := n_; clear n_)
        | ((with_reducible refine gate_dst (N := 14) rfl ?_); refine box_event ?hg (N := 14) ?hd (cs := #[.int .i64 0, .int .i64 0]) (t := 25) ?hr ?_; (case hd => rfl); (case hg => rfl); (case hr => first | (go_simp; done) | (go_simp; rfl)); intro g14 hg W7 hbx hb7; have hz0 := (blk_cell hbx 0).trans rfl; have hz1 := (blk_cell hbx 1).trans rfl; have hy0 := blk_frozen hbx 0; have hy1 := blk_frozen hbx 1; have HX := Aside0.mk (And.intro hg (And.intro hbx hb7)); clear hbx hb7 hg)
        | ((with_reducible refine gate_store (t := 25) (p := 14) rfl ?_); refine store_event (t := 25) (p := 14) (v := .tmp 48) (w1 := ((W7.setCell ⟨g14, 0, none⟩ (.int .i64 (0))).setCell ⟨g14, 1, none⟩ (.int .i64 (0)))) ?hg ?ho ?hn ?hr ?_; (case ho => rfl); (case hg => rfl); (case hn => rfl); (case hr => first | (go_simp; done) | (go_simp; rfl)); intro W8 hw8; have n_ := Aside0.mk (HE.out.boxed HX.out.1 HX.out.2.1 HX.out.2.2 hw8); clear HE HX hw8 hz0 hz1 hy0 hy1; have HE := n_; clear n_; have p11 := (blk_cell (HE.out.box (g11, 0, 0) (by simp)) 0).trans rfl; have q11 := (blk_cell (HE.out.box (g11, 0, 0) (by simp)) 1).trans rfl; have p14 := (blk_cell (HE.out.box (g14, 0, 0) (by simp)) 0).trans rfl; have q14 := (blk_cell (HE.out.box (g14, 0, 0) (by simp)) 1).trans rfl)
        | ((with_reducible refine gate_builtin (b := .append) (xs := #[.const (.slice none 0 0), .tmp 52]) rfl ?_); at_builtin; refine Kd.R_append_rows (Kd.int .i64) (w0 := W8) W8.heap.size rfl (.const (.slice none 0 0)) (.tmp 52) 34 3 (.int .i64 0) 8 rfl Try.underlying34 info3 rfl (by decide) (by omega) (.slice none 0 0) [] a _ _ _ (fun _ => True) (fun _ => False) rfl rfl ?aO ?aR (fun _ _ h => h) (fun _ h => h.elim) (fun _ _ => trivial) ?aB ?aS ?aL ?_; (case aO => exact Kd.R_nil _ _ _ _ _); (case aR => exact (Kd.C_below HA.out HE.out.bel)); (case aB => exact Below.refl _ _); (case aS => exact Nat.le_refl _); (case aL => have h := HLN.out.1; show (0 + a.length) * 8 ≤ _; omega); intro v53 W53 ho53 hb53 hg53 ha53; clear hg53 ha53; rw [List.nil_append] at ho53; have HO53 := Aside0.mk ho53; have HB53 := Aside0.mk hb53; clear ho53 hb53)
        | ((with_reducible refine gate_builtin (b := .append) (xs := #[.tmp 53, .tmp 54]) rfl ?_); at_builtin; refine Kd.R_append_rows (Kd.int .i64) (w0 := W8) W8.heap.size rfl (.tmp 53) (.tmp 54) 34 3 (.int .i64 0) 8 rfl Try.underlying34 info3 rfl (by decide) (by omega) v53 a b _ _ _ (fun _ => True) (fun _ => False) rfl rfl ?aO ?aR (fun _ _ h => h) (fun _ h => h.elim) (fun _ _ => trivial) ?aB ?aS ?aL ?_; (case aO => exact HO53.out); (case aR => exact (Kd.C_below HBB.out (below_step HE.out.bel HB53.out))); (case aB => exact HB53.out); (case aS => exact HB53.out.size); (case aL => have h := HLN.out; omega); intro v55 W55 ho55 hb55 hg55 ha55; clear hg55 ha55; rw [HAB.out] at ho55; obtain ⟨A3, c3, rfl, hl3, hC3⟩ := Kd.R_reads ho55; have HL3 := Aside0.mk hl3; have HC3 := Aside0.mk hC3; have n_ := Aside0.mk (HE.out.step hb55); clear HE ho55 hb55 hl3 hC3 HO53 HB53; have HE := n_; clear n_)
        | (go_at_call 15; (with_reducible show Calls Try.prog 15 #[.slice A l.length c, .int .i64 t, .slice A3 ab.length c3] _ _); refine (path_calls _ _ _ l (Kd.C_below HCC.out HE.out.bel) HCL.out HW.out t _ _ ab HC3.out HL3.out y n 0 0 HP3.out).mono ?_; rintro e W2 ⟨rfl, hb⟩; have n_ := Aside0.mk (HE.out.step hb); clear HE hb; have HE := n_; clear n_)
        | ((with_reducible refine gate_dst (N := 17) rfl ?_); refine box_event ?hg (N := 17) ?hd (cs := #[.int .i64 0, .int .i64 0]) (t := 25) ?hr ?_; (case hd => rfl); (case hg => rfl); (case hr => first | (go_simp; done) | (go_simp; rfl)); intro g17 hg W7 hbx hb7; have hz0 := (blk_cell hbx 0).trans rfl; have hz1 := (blk_cell hbx 1).trans rfl; have hy0 := blk_frozen hbx 0; have hy1 := blk_frozen hbx 1; have HX := Aside0.mk (And.intro hg (And.intro hbx hb7)); clear hbx hb7 hg)
        | ((with_reducible refine gate_store (t := 25) (p := 17) rfl ?_); refine store_event (t := 25) (p := 17) (v := .tmp 59) (w1 := ((W7.setCell ⟨g17, 0, none⟩ (.int .i64 (0))).setCell ⟨g17, 1, none⟩ (.int .i64 (0)))) ?hg ?ho ?hn ?hr ?_; (case ho => rfl); (case hg => rfl); (case hn => rfl); (case hr => first | (go_simp; done) | (go_simp; rfl)); intro W8 hw8; have n_ := Aside0.mk (HE.out.boxed HX.out.1 HX.out.2.1 HX.out.2.2 hw8); clear HE HX hw8 hz0 hz1 hy0 hy1; have HE := n_; clear n_; have p11 := (blk_cell (HE.out.box (g11, 0, 0) (by simp)) 0).trans rfl; have q11 := (blk_cell (HE.out.box (g11, 0, 0) (by simp)) 1).trans rfl; have p14 := (blk_cell (HE.out.box (g14, 0, 0) (by simp)) 0).trans rfl; have q14 := (blk_cell (HE.out.box (g14, 0, 0) (by simp)) 1).trans rfl; have p17 := (blk_cell (HE.out.box (g17, 0, 0) (by simp)) 0).trans rfl; have q17 := (blk_cell (HE.out.box (g17, 0, 0) (by simp)) 1).trans rfl)
        | (go_at_call 13; (with_reducible show Calls Try.prog 13 #[.slice A l.length c, .int .i64 t] _ _); refine (records_Size.calls ks _ _ l t (sz l t) 0 0 _ (Kd.C_below HCC.out HE.out.bel) HCL.out HS1.out).mono ?_; rintro e W2 ⟨rfl, hb⟩; have n_ := Aside0.mk (HE.out.step hb); clear HE hb; have HE := n_; clear n_)
        | ((with_reducible refine gate_dst (N := 19) rfl ?_); refine box_event ?hg (N := 19) ?hd (cs := #[.int .i64 0, .int .i64 0]) (t := 25) ?hr ?_; (case hd => rfl); (case hg => rfl); (case hr => first | (go_simp; done) | (go_simp; rfl)); intro g19 hg W7 hbx hb7; have hz0 := (blk_cell hbx 0).trans rfl; have hz1 := (blk_cell hbx 1).trans rfl; have hy0 := blk_frozen hbx 0; have hy1 := blk_frozen hbx 1; have HX := Aside0.mk (And.intro hg (And.intro hbx hb7)); clear hbx hb7 hg)
        | ((with_reducible refine gate_store (t := 25) (p := 19) rfl ?_); refine store_event (t := 25) (p := 19) (v := .tmp 91) (w1 := ((W7.setCell ⟨g19, 0, none⟩ (.int .i64 (0))).setCell ⟨g19, 1, none⟩ (.int .i64 (0)))) ?hg ?ho ?hn ?hr ?_; (case ho => rfl); (case hg => rfl); (case hn => rfl); (case hr => first | (go_simp; done) | (go_simp; rfl)); intro W8 hw8; have n_ := Aside0.mk (HE.out.boxed HX.out.1 HX.out.2.1 HX.out.2.2 hw8); clear HE HX hw8 hz0 hz1 hy0 hy1; have HE := n_; clear n_; have p19 := (blk_cell (HE.out.box (g19, 0, 0) (by simp)) 0).trans rfl; have q19 := (blk_cell (HE.out.box (g19, 0, 0) (by simp)) 1).trans rfl)
        | (go_at_call 13; (with_reducible show Calls Try.prog 13 #[.slice A l.length c, .int .i64 y] _ _); refine (records_Size.calls ks' _ _ l y (sz l y) 0 0 _ (Kd.C_below HCC.out HE.out.bel) HCL.out HS2.out).mono ?_; rintro e W2 ⟨rfl, hb⟩; have n_ := Aside0.mk (HE.out.step hb); clear HE hb; have HE := n_; clear n_)
        | ((with_reducible refine gate_dst (N := 21) rfl ?_); refine box_event ?hg (N := 21) ?hd (cs := #[.int .i64 0, .int .i64 0]) (t := 25) ?hr ?_; (case hd => rfl); (case hg => rfl); (case hr => first | (go_simp; done) | (go_simp; rfl)); intro g21 hg W7 hbx hb7; have hz0 := (blk_cell hbx 0).trans rfl; have hz1 := (blk_cell hbx 1).trans rfl; have hy0 := blk_frozen hbx 0; have hy1 := blk_frozen hbx 1; have HX := Aside0.mk (And.intro hg (And.intro hbx hb7)); clear hbx hb7 hg)
        | ((with_reducible refine gate_store (t := 25) (p := 21) rfl ?_); refine store_event (t := 25) (p := 21) (v := .tmp 97) (w1 := ((W7.setCell ⟨g21, 0, none⟩ (.int .i64 (0))).setCell ⟨g21, 1, none⟩ (.int .i64 (0)))) ?hg ?ho ?hn ?hr ?_; (case ho => rfl); (case hg => rfl); (case hn => rfl); (case hr => first | (go_simp; done) | (go_simp; rfl)); intro W8 hw8; have n_ := Aside0.mk (HE.out.boxed HX.out.1 HX.out.2.1 HX.out.2.2 hw8); clear HE HX hw8 hz0 hz1 hy0 hy1; have HE := n_; clear n_; have p19 := (blk_cell (HE.out.box (g19, 0, 0) (by simp)) 0).trans rfl; have q19 := (blk_cell (HE.out.box (g19, 0, 0) (by simp)) 1).trans rfl; have p21 := (blk_cell (HE.out.box (g21, 0, 0) (by simp)) 0).trans rfl; have q21 := (blk_cell (HE.out.box (g21, 0, 0) (by simp)) 1).trans rfl))
      go_ret
      exact ⟨rfl, HE.out.bel⟩
    · clear hv t0 t1
      go_enter Try.func5, Try.ntmps5
      go_wp2_with (first
        | (go_at_call 10; refine (ex_calls _).mono ?_; rintro e W2 ⟨rfl, hb⟩; have n_ := Aside0.mk (HE.out.step hb); clear HE hb; have HE := n_; clear n_)
        | (go_at_call 15; (with_reducible show Calls Try.prog 15 #[.slice A l.length c, .int .i64 t, .slice B a.length d] _ _); refine (path_calls _ _ _ l (Kd.C_below HCC.out HE.out.bel) HCL.out HW.out t _ _ a (Kd.C_below HA.out HE.out.bel) HAL.out x i 0 0 HP1.out).mono ?_; rintro e W2 ⟨rfl, hb⟩; have n_ := Aside0.mk (HE.out.step hb); clear HE hb; have HE := n_; clear n_)
        | ((with_reducible refine gate_dst (N := 11) rfl ?_); refine box_event ?hg (N := 11) ?hd (cs := #[.int .i64 0, .int .i64 0]) (t := 25) ?hr ?_; (case hd => rfl); (case hg => rfl); (case hr => first | (go_simp; done) | (go_simp; rfl)); intro g11 hg W7 hbx hb7; have hz0 := (blk_cell hbx 0).trans rfl; have hz1 := (blk_cell hbx 1).trans rfl; have hy0 := blk_frozen hbx 0; have hy1 := blk_frozen hbx 1; have HX := Aside0.mk (And.intro hg (And.intro hbx hb7)); clear hbx hb7 hg)
        | ((with_reducible refine gate_store (t := 25) (p := 11) rfl ?_); refine store_event (t := 25) (p := 11) (v := .tmp 31) (w1 := ((W7.setCell ⟨g11, 0, none⟩ (.int .i64 (0))).setCell ⟨g11, 1, none⟩ (.int .i64 (0)))) ?hg ?ho ?hn ?hr ?_; (case ho => rfl); (case hg => rfl); (case hn => rfl); (case hr => first | (go_simp; done) | (go_simp; rfl)); intro W8 hw8; have n_ := Aside0.mk (HE.out.boxed HX.out.1 HX.out.2.1 HX.out.2.2 hw8); clear HE HX hw8 hz0 hz1 hy0 hy1; have HE := n_; clear n_; have p11 := (blk_cell (HE.out.box (g11, 0, 0) (by simp)) 0).trans rfl; have q11 := (blk_cell (HE.out.box (g11, 0, 0) (by simp)) 1).trans rfl)
        | (go_at_call 15; (with_reducible show Calls Try.prog 15 #[.slice A l.length c, .int .i64 x, .slice D b.length e0] _ _); refine (path_calls _ _ _ l (Kd.C_below HCC.out HE.out.bel) HCL.out HW.out x _ _ b (Kd.C_below HBB.out HE.out.bel) HBL.out y k 0 G2 HP2.out).mono ?_; rintro e W2 ⟨rfl, hb⟩; have n_ := Aside0.mk (HE.out.step hb); clear HE hb; have HE := n_; clear n_)
        | ((with_reducible refine gate_dst (N := 14) rfl ?_); refine box_event ?hg (N := 14) ?hd (cs := #[.int .i64 0, .int .i64 0]) (t := 25) ?hr ?_; (case hd => rfl); (case hg => rfl); (case hr => first | (go_simp; done) | (go_simp; rfl)); intro g14 hg W7 hbx hb7; have hz0 := (blk_cell hbx 0).trans rfl; have hz1 := (blk_cell hbx 1).trans rfl; have hy0 := blk_frozen hbx 0; have hy1 := blk_frozen hbx 1; have HX := Aside0.mk (And.intro hg (And.intro hbx hb7)); clear hbx hb7 hg)
        | ((with_reducible refine gate_store (t := 25) (p := 14) rfl ?_); refine store_event (t := 25) (p := 14) (v := .tmp 48) (w1 := ((W7.setCell ⟨g14, 0, none⟩ (.int .i64 (0))).setCell ⟨g14, 1, none⟩ (.int .i64 (G2)))) ?hg ?ho ?hn ?hr ?_; (case ho => rfl); (case hg => rfl); (case hn => rfl); (case hr => first | (go_simp; done) | (go_simp; rfl)); intro W8 hw8; have n_ := Aside0.mk (HE.out.boxed HX.out.1 HX.out.2.1 HX.out.2.2 hw8); clear HE HX hw8 hz0 hz1 hy0 hy1; have HE := n_; clear n_; have p11 := (blk_cell (HE.out.box (g11, 0, 0) (by simp)) 0).trans rfl; have q11 := (blk_cell (HE.out.box (g11, 0, 0) (by simp)) 1).trans rfl; have p14 := (blk_cell (HE.out.box (g14, 0, G2) (by simp)) 0).trans rfl; have q14 := (blk_cell (HE.out.box (g14, 0, G2) (by simp)) 1).trans rfl)
        | ((with_reducible refine gate_builtin (b := .append) (xs := #[.const (.slice none 0 0), .tmp 52]) rfl ?_); at_builtin; refine Kd.R_append_rows (Kd.int .i64) (w0 := W8) W8.heap.size rfl (.const (.slice none 0 0)) (.tmp 52) 34 3 (.int .i64 0) 8 rfl Try.underlying34 info3 rfl (by decide) (by omega) (.slice none 0 0) [] a _ _ _ (fun _ => True) (fun _ => False) rfl rfl ?aO ?aR (fun _ _ h => h) (fun _ h => h.elim) (fun _ _ => trivial) ?aB ?aS ?aL ?_; (case aO => exact Kd.R_nil _ _ _ _ _); (case aR => exact (Kd.C_below HA.out HE.out.bel)); (case aB => exact Below.refl _ _); (case aS => exact Nat.le_refl _); (case aL => have h := HLN.out.1; show (0 + a.length) * 8 ≤ _; omega); intro v53 W53 ho53 hb53 hg53 ha53; clear hg53 ha53; rw [List.nil_append] at ho53; have HO53 := Aside0.mk ho53; have HB53 := Aside0.mk hb53; clear ho53 hb53)
        | ((with_reducible refine gate_builtin (b := .append) (xs := #[.tmp 53, .tmp 54]) rfl ?_); at_builtin; refine Kd.R_append_rows (Kd.int .i64) (w0 := W8) W8.heap.size rfl (.tmp 53) (.tmp 54) 34 3 (.int .i64 0) 8 rfl Try.underlying34 info3 rfl (by decide) (by omega) v53 a b _ _ _ (fun _ => True) (fun _ => False) rfl rfl ?aO ?aR (fun _ _ h => h) (fun _ h => h.elim) (fun _ _ => trivial) ?aB ?aS ?aL ?_; (case aO => exact HO53.out); (case aR => exact (Kd.C_below HBB.out (below_step HE.out.bel HB53.out))); (case aB => exact HB53.out); (case aS => exact HB53.out.size); (case aL => have h := HLN.out; omega); intro v55 W55 ho55 hb55 hg55 ha55; clear hg55 ha55; rw [HAB.out] at ho55; obtain ⟨A3, c3, rfl, hl3, hC3⟩ := Kd.R_reads ho55; have HL3 := Aside0.mk hl3; have HC3 := Aside0.mk hC3; have n_ := Aside0.mk (HE.out.step hb55); clear HE ho55 hb55 hl3 hC3 HO53 HB53; have HE := n_; clear n_)
        | (go_at_call 15; (with_reducible show Calls Try.prog 15 #[.slice A l.length c, .int .i64 t, .slice A3 ab.length c3] _ _); refine (path_calls _ _ _ l (Kd.C_below HCC.out HE.out.bel) HCL.out HW.out t _ _ ab HC3.out HL3.out z n 2 K2 HP3.out).mono ?_; rintro e W2 ⟨rfl, hb⟩; have n_ := Aside0.mk (HE.out.step hb); clear HE hb; have HE := n_; clear n_)
        | ((with_reducible refine gate_dst (N := 17) rfl ?_); refine box_event ?hg (N := 17) ?hd (cs := #[.int .i64 0, .int .i64 0]) (t := 25) ?hr ?_; (case hd => rfl); (case hg => rfl); (case hr => first | (go_simp; done) | (go_simp; rfl)); intro g17 hg W7 hbx hb7; have hz0 := (blk_cell hbx 0).trans rfl; have hz1 := (blk_cell hbx 1).trans rfl; have hy0 := blk_frozen hbx 0; have hy1 := blk_frozen hbx 1; have HX := Aside0.mk (And.intro hg (And.intro hbx hb7)); clear hbx hb7 hg)
        | ((with_reducible refine gate_store (t := 25) (p := 17) rfl ?_); refine store_event (t := 25) (p := 17) (v := .tmp 59) (w1 := ((W7.setCell ⟨g17, 0, none⟩ (.int .i64 (2))).setCell ⟨g17, 1, none⟩ (.int .i64 (K2)))) ?hg ?ho ?hn ?hr ?_; (case ho => rfl); (case hg => rfl); (case hn => rfl); (case hr => first | (go_simp; done) | (go_simp; rfl)); intro W8 hw8; have n_ := Aside0.mk (HE.out.boxed HX.out.1 HX.out.2.1 HX.out.2.2 hw8); clear HE HX hw8 hz0 hz1 hy0 hy1; have HE := n_; clear n_; have p11 := (blk_cell (HE.out.box (g11, 0, 0) (by simp)) 0).trans rfl; have q11 := (blk_cell (HE.out.box (g11, 0, 0) (by simp)) 1).trans rfl; have p14 := (blk_cell (HE.out.box (g14, 0, G2) (by simp)) 0).trans rfl; have q14 := (blk_cell (HE.out.box (g14, 0, G2) (by simp)) 1).trans rfl; have p17 := (blk_cell (HE.out.box (g17, 2, K2) (by simp)) 0).trans rfl; have q17 := (blk_cell (HE.out.box (g17, 2, K2) (by simp)) 1).trans rfl))
      go_ret
      exact ⟨rfl, HE.out.bel⟩
    · have hgb : (G1 == 0) = false := by simpa using hg
      have hgn : (G1 != 0) = true := by simpa using hg
      have hkb : (K1 == 0) = false := by simpa using hk
      have hkn : (K1 != 0) = true := by simpa using hk
      clear hv t0 t1 hg hk
      go_enter Try.func5, Try.ntmps5
      go_wp2_with (first
        | (go_at_call 10; refine (ex_calls _).mono ?_; rintro e W2 ⟨rfl, hb⟩; have n_ := Aside0.mk (HE.out.step hb); clear HE hb; have HE := n_; clear n_)
        | (go_at_call 15; (with_reducible show Calls Try.prog 15 #[.slice A l.length c, .int .i64 t, .slice B a.length d] _ _); refine (path_calls _ _ _ l (Kd.C_below HCC.out HE.out.bel) HCL.out HW.out t _ _ a (Kd.C_below HA.out HE.out.bel) HAL.out x i 0 0 HP1.out).mono ?_; rintro e W2 ⟨rfl, hb⟩; have n_ := Aside0.mk (HE.out.step hb); clear HE hb; have HE := n_; clear n_)
        | ((with_reducible refine gate_dst (N := 11) rfl ?_); refine box_event ?hg (N := 11) ?hd (cs := #[.int .i64 0, .int .i64 0]) (t := 25) ?hr ?_; (case hd => rfl); (case hg => rfl); (case hr => first | (go_simp; done) | (go_simp; rfl)); intro g11 hg W7 hbx hb7; have hz0 := (blk_cell hbx 0).trans rfl; have hz1 := (blk_cell hbx 1).trans rfl; have hy0 := blk_frozen hbx 0; have hy1 := blk_frozen hbx 1; have HX := Aside0.mk (And.intro hg (And.intro hbx hb7)); clear hbx hb7 hg)
        | ((with_reducible refine gate_store (t := 25) (p := 11) rfl ?_); refine store_event (t := 25) (p := 11) (v := .tmp 31) (w1 := ((W7.setCell ⟨g11, 0, none⟩ (.int .i64 (0))).setCell ⟨g11, 1, none⟩ (.int .i64 (0)))) ?hg ?ho ?hn ?hr ?_; (case ho => rfl); (case hg => rfl); (case hn => rfl); (case hr => first | (go_simp; done) | (go_simp; rfl)); intro W8 hw8; have n_ := Aside0.mk (HE.out.boxed HX.out.1 HX.out.2.1 HX.out.2.2 hw8); clear HE HX hw8 hz0 hz1 hy0 hy1; have HE := n_; clear n_; have p11 := (blk_cell (HE.out.box (g11, 0, 0) (by simp)) 0).trans rfl; have q11 := (blk_cell (HE.out.box (g11, 0, 0) (by simp)) 1).trans rfl)
        | (go_at_call 15; (with_reducible show Calls Try.prog 15 #[.slice A l.length c, .int .i64 x, .slice D b.length e0] _ _); refine (path_calls _ _ _ l (Kd.C_below HCC.out HE.out.bel) HCL.out HW.out x _ _ b (Kd.C_below HBB.out HE.out.bel) HBL.out y k G1 G2 HP2.out).mono ?_; rintro e W2 ⟨rfl, hb⟩; have n_ := Aside0.mk (HE.out.step hb); clear HE hb; have HE := n_; clear n_)
        | ((with_reducible refine gate_dst (N := 14) rfl ?_); refine box_event ?hg (N := 14) ?hd (cs := #[.int .i64 0, .int .i64 0]) (t := 25) ?hr ?_; (case hd => rfl); (case hg => rfl); (case hr => first | (go_simp; done) | (go_simp; rfl)); intro g14 hg W7 hbx hb7; have hz0 := (blk_cell hbx 0).trans rfl; have hz1 := (blk_cell hbx 1).trans rfl; have hy0 := blk_frozen hbx 0; have hy1 := blk_frozen hbx 1; have HX := Aside0.mk (And.intro hg (And.intro hbx hb7)); clear hbx hb7 hg)
        | ((with_reducible refine gate_store (t := 25) (p := 14) rfl ?_); refine store_event (t := 25) (p := 14) (v := .tmp 48) (w1 := ((W7.setCell ⟨g14, 0, none⟩ (.int .i64 (G1))).setCell ⟨g14, 1, none⟩ (.int .i64 (G2)))) ?hg ?ho ?hn ?hr ?_; (case ho => rfl); (case hg => rfl); (case hn => rfl); (case hr => first | (go_simp; done) | (go_simp; rfl)); intro W8 hw8; have n_ := Aside0.mk (HE.out.boxed HX.out.1 HX.out.2.1 HX.out.2.2 hw8); clear HE HX hw8 hz0 hz1 hy0 hy1; have HE := n_; clear n_; have p11 := (blk_cell (HE.out.box (g11, 0, 0) (by simp)) 0).trans rfl; have q11 := (blk_cell (HE.out.box (g11, 0, 0) (by simp)) 1).trans rfl; have p14 := (blk_cell (HE.out.box (g14, G1, G2) (by simp)) 0).trans rfl; have q14 := (blk_cell (HE.out.box (g14, G1, G2) (by simp)) 1).trans rfl)
        | ((with_reducible refine gate_builtin (b := .append) (xs := #[.const (.slice none 0 0), .tmp 52]) rfl ?_); at_builtin; refine Kd.R_append_rows (Kd.int .i64) (w0 := W8) W8.heap.size rfl (.const (.slice none 0 0)) (.tmp 52) 34 3 (.int .i64 0) 8 rfl Try.underlying34 info3 rfl (by decide) (by omega) (.slice none 0 0) [] a _ _ _ (fun _ => True) (fun _ => False) rfl rfl ?aO ?aR (fun _ _ h => h) (fun _ h => h.elim) (fun _ _ => trivial) ?aB ?aS ?aL ?_; (case aO => exact Kd.R_nil _ _ _ _ _); (case aR => exact (Kd.C_below HA.out HE.out.bel)); (case aB => exact Below.refl _ _); (case aS => exact Nat.le_refl _); (case aL => have h := HLN.out.1; show (0 + a.length) * 8 ≤ _; omega); intro v53 W53 ho53 hb53 hg53 ha53; clear hg53 ha53; rw [List.nil_append] at ho53; have HO53 := Aside0.mk ho53; have HB53 := Aside0.mk hb53; clear ho53 hb53)
        | ((with_reducible refine gate_builtin (b := .append) (xs := #[.tmp 53, .tmp 54]) rfl ?_); at_builtin; refine Kd.R_append_rows (Kd.int .i64) (w0 := W8) W8.heap.size rfl (.tmp 53) (.tmp 54) 34 3 (.int .i64 0) 8 rfl Try.underlying34 info3 rfl (by decide) (by omega) v53 a b _ _ _ (fun _ => True) (fun _ => False) rfl rfl ?aO ?aR (fun _ _ h => h) (fun _ h => h.elim) (fun _ _ => trivial) ?aB ?aS ?aL ?_; (case aO => exact HO53.out); (case aR => exact (Kd.C_below HBB.out (below_step HE.out.bel HB53.out))); (case aB => exact HB53.out); (case aS => exact HB53.out.size); (case aL => have h := HLN.out; omega); intro v55 W55 ho55 hb55 hg55 ha55; clear hg55 ha55; rw [HAB.out] at ho55; obtain ⟨A3, c3, rfl, hl3, hC3⟩ := Kd.R_reads ho55; have HL3 := Aside0.mk hl3; have HC3 := Aside0.mk hC3; have n_ := Aside0.mk (HE.out.step hb55); clear HE ho55 hb55 hl3 hC3 HO53 HB53; have HE := n_; clear n_)
        | (go_at_call 15; (with_reducible show Calls Try.prog 15 #[.slice A l.length c, .int .i64 t, .slice A3 ab.length c3] _ _); refine (path_calls _ _ _ l (Kd.C_below HCC.out HE.out.bel) HCL.out HW.out t _ _ ab HC3.out HL3.out z n K1 K2 HP3.out).mono ?_; rintro e W2 ⟨rfl, hb⟩; have n_ := Aside0.mk (HE.out.step hb); clear HE hb; have HE := n_; clear n_)
        | ((with_reducible refine gate_dst (N := 17) rfl ?_); refine box_event ?hg (N := 17) ?hd (cs := #[.int .i64 0, .int .i64 0]) (t := 25) ?hr ?_; (case hd => rfl); (case hg => rfl); (case hr => first | (go_simp; done) | (go_simp; rfl)); intro g17 hg W7 hbx hb7; have hz0 := (blk_cell hbx 0).trans rfl; have hz1 := (blk_cell hbx 1).trans rfl; have hy0 := blk_frozen hbx 0; have hy1 := blk_frozen hbx 1; have HX := Aside0.mk (And.intro hg (And.intro hbx hb7)); clear hbx hb7 hg)
        | ((with_reducible refine gate_store (t := 25) (p := 17) rfl ?_); refine store_event (t := 25) (p := 17) (v := .tmp 59) (w1 := ((W7.setCell ⟨g17, 0, none⟩ (.int .i64 (K1))).setCell ⟨g17, 1, none⟩ (.int .i64 (K2)))) ?hg ?ho ?hn ?hr ?_; (case ho => rfl); (case hg => rfl); (case hn => rfl); (case hr => first | (go_simp; done) | (go_simp; rfl)); intro W8 hw8; have n_ := Aside0.mk (HE.out.boxed HX.out.1 HX.out.2.1 HX.out.2.2 hw8); clear HE HX hw8 hz0 hz1 hy0 hy1; have HE := n_; clear n_; have p11 := (blk_cell (HE.out.box (g11, 0, 0) (by simp)) 0).trans rfl; have q11 := (blk_cell (HE.out.box (g11, 0, 0) (by simp)) 1).trans rfl; have p14 := (blk_cell (HE.out.box (g14, G1, G2) (by simp)) 0).trans rfl; have q14 := (blk_cell (HE.out.box (g14, G1, G2) (by simp)) 1).trans rfl; have p17 := (blk_cell (HE.out.box (g17, K1, K2) (by simp)) 0).trans rfl; have q17 := (blk_cell (HE.out.box (g17, K1, K2) (by simp)) 1).trans rfl))
      go_ret
      exact ⟨rfl, HE.out.bel⟩
  · obtain ⟨rfl, rfl⟩ := path_bad h1 h0
    have h0b : (F1 == 0) = false := by simpa using h0
    have h0n : (F1 != 0) = true := by simpa using h0
    have HP1 := Aside0.mk h1
    clear h1 h0 hbz
    go_enter Try.func5, Try.ntmps5
    go_wp2_with (first
      | (go_at_call 10; refine (ex_calls _).mono ?_; rintro e W2 ⟨rfl, hb⟩; have n_ := Aside0.mk (HE.out.step hb); clear HE hb; have HE := n_; clear n_)
      | (go_at_call 15; refine (path_calls _ _ _ l (Kd.C_below HCC.out HE.out.bel) HCL.out HW.out t _ _ a (Kd.C_below HA.out HE.out.bel) HAL.out 0 0 F1 F2 HP1.out).mono ?_; rintro e W2 ⟨rfl, hb⟩; have n_ := Aside0.mk (HE.out.step hb); clear HE hb; have HE := n_; clear n_)
      | ((with_reducible refine gate_dst (N := 11) rfl ?_); refine box_event ?hg (N := 11) ?hd (cs := #[.int .i64 0, .int .i64 0]) (t := 25) ?hr ?_; (case hd => rfl); (case hg => rfl); (case hr => first | (go_simp; done) | (go_simp; rfl)); intro g11 hg W7 hbx hb7; have hz0 := (blk_cell hbx 0).trans rfl; have hz1 := (blk_cell hbx 1).trans rfl; have hy0 := blk_frozen hbx 0; have hy1 := blk_frozen hbx 1; have HX := Aside0.mk (And.intro hg (And.intro hbx hb7)); clear hbx hb7 hg)
      | ((with_reducible refine gate_store (t := 25) (p := 11) rfl ?_); refine store_event (t := 25) (p := 11) (v := .tmp 31) (w1 := ((W7.setCell ⟨g11, 0, none⟩ (.int .i64 (F1))).setCell ⟨g11, 1, none⟩ (.int .i64 (F2)))) ?hg ?ho ?hn ?hr ?_; (case ho => rfl); (case hg => rfl); (case hn => rfl); (case hr => first | (go_simp; done) | (go_simp; rfl)); intro W8 hw8; have n_ := Aside0.mk (HE.out.boxed HX.out.1 HX.out.2.1 HX.out.2.2 hw8); clear HE HX hw8 hz0 hz1 hy0 hy1; have HE := n_; clear n_; have p11 := (blk_cell (HE.out.box (g11, F1, F2) (by simp)) 0).trans rfl; have q11 := (blk_cell (HE.out.box (g11, F1, F2) (by simp)) 1).trans rfl))
    go_ret
    exact ⟨rfl, HE.out.bel⟩
end Go.Proofs.Ytpmlcmdojmdmhaa.PR
