/- Which part of a type a path leads to; the part lies within the type; records.Path returns what 'path' says. -/
import Derived.Test.YtpmlcmdojmdmhaaHPureB
import Derived.Test.YtpmlcmdojmdmhaaHMerge
set_option linter.unusedVariables false
set_option linter.unusedSimpArgs false
set_option maxRecDepth 100000
namespace Go.Proofs.Ytpmlcmdojmdmhaa.PR
open Go.RowKit Go.Proofs.YtpmlcmdojmdmhaaW.PrintWords Go.Proofs.YtpmlcmdojmdmhaaW.PrintLast Go.Proofs.YtpmlcmdojmdmhaaW.PrintMore
/-! ### what a valid list tells of a type -/
structure TV (l : List S32) (i : Int) (t : S32) : Prop where
 k : P1 t
 nm : P2 t
 p3 : P3 l t
 p4 : P4 t
 p5 : P5 t
 p6 : P6 i t
 p7 : P7 l t
 n8 : ¬ t.f5.length > 8
 fs : fieldsCode l i t t.f5.length 0 0 = 0
theorem ite_code {P : Prop} [Decidable P] {c x : Int} (hc : c ≠ 0) : ((if ¬ P then c else x) = 0) ↔ (P ∧ x = 0) := by
 by_cases h : P
 · rw [if_neg (by simpa using h)]; exact ⟨fun e => ⟨h, e⟩, fun e => e.2⟩
 · rw [if_pos h]; exact ⟨fun e => absurd e hc, fun e => absurd e.1 h⟩
theorem code_zero {l : List S32} {i : Int} {t : S32} : code l i t = 0 ↔ TV l i t := by
 unfold code
 rw [ite_code (by decide), ite_code (by decide), ite_code (by decide), ite_code (by decide), ite_code (by decide), ite_code (by decide), ite_code (by decide)]
 by_cases h8 : t.f5.length > 8
 · rw [if_pos h8]; exact ⟨fun h => absurd h.2.2.2.2.2.2.2 (by decide), fun h => absurd h8 h.n8⟩
 · rw [if_neg h8]; exact ⟨fun ⟨a, b, c, d, e, f, g, h⟩ => ⟨a, b, c, d, e, f, g, h8, h⟩, fun h => ⟨h.k, h.nm, h.p3, h.p4, h.p5, h.p6, h.p7, h.fs⟩⟩
theorem Valid.tv {l : List S32} (h : Valid l) {t : Int} (h0 : 0 ≤ t) (h1 : t < (l.length : Int)) : TV l t (rd_T32 l t) := by
 obtain ⟨m, rfl⟩ := Int.eq_ofNat_of_zero_le h0
 have := h.2 m (by omega)
 unfold Good at this
 rw [rd_T32_nat]
 exact code_zero.1 this
theorem Valid.siz {l : List S32} (h : Valid l) {t : Int} (h0 : 0 ≤ t) (h1 : t < (l.length : Int)) : 0 ≤ sz l t ∧ sz l t ≤ 1000000 := (h.tv h0 h1).p3.1
theorem fields_zero {l : List S32} {i : Int} {t : S32} (hs : ∀ j, 0 ≤ j → j < i → 0 ≤ sz l j) : ∀ d q e, 0 ≤ e → fieldsCode l i t d q e = 0 → ∀ p, q ≤ p → p < q + d → ∃ e', 0 ≤ e' ∧ fieldCode l i t p e' = 0 := by
 intro d
 induction d with
 | zero => intro q e _ _ p h0 h1; omega
 | succ d ih =>
  intro q e he h p h0 h1
  rw [fieldsCode] at h
  by_cases hz : fieldCode l i t q e = 0
  · rw [if_pos hz] at h
    obtain ⟨_, _, a1, a2, a3, a4⟩ := fieldCode_zero.1 hz
    by_cases e : p = q
    · subst e; exact ⟨_, he, hz⟩
    · exact ih (q + 1) _ (by have := hs _ a1 a2; unfold fieldEnd; omega) h p (by omega) (by omega)
  · rw [if_neg hz] at h; exact absurd h hz
/-- A field's type, and where it lies. -/
theorem Valid.fld {l : List S32} (hv : Valid l) {t : Int} (h0 : 0 ≤ t) (h1 : t < (l.length : Int)) {k : Int} (k0 : 0 ≤ k) (k1 : k < ((rd_T32 l t).f5.length : Int)) :
 0 ≤ (rd_T55 (rd_T32 l t).f5 k).f1 ∧ (rd_T55 (rd_T32 l t).f5 k).f1 < t ∧ 0 ≤ (rd_T55 (rd_T32 l t).f5 k).f2 ∧ (rd_T55 (rd_T32 l t).f5 k).f2 + sz l (rd_T55 (rd_T32 l t).f5 k).f1 ≤ sz l t := by
 obtain ⟨q, rfl⟩ := Int.eq_ofNat_of_zero_le k0
 rw [fd_eq]
 obtain ⟨e, he, hz⟩ := fields_zero (fun j j0 j1 => (hv.siz j0 (by omega)).1) _ 0 0 (by omega) (hv.tv h0 h1).fs q (by omega) (by omega)
 obtain ⟨_, _, a1, a2, a3, a4⟩ := fieldCode_zero.1 hz
 exact ⟨a1, a2, by omega, a4⟩
/-- An element's type, and where it lies. -/
theorem Valid.elt {l : List S32} (hv : Valid l) {t : Int} (h0 : 0 ≤ t) (h1 : t < (l.length : Int)) (h3 : (rd_T32 l t).f0 = 3) {k : Int} (k0 : 0 ≤ k) (k1 : k < (rd_T32 l t).f4) :
 0 ≤ (rd_T32 l t).f3 ∧ (rd_T32 l t).f3 < t ∧ 0 ≤ k * sz l (rd_T32 l t).f3 ∧ k * sz l (rd_T32 l t).f3 + sz l (rd_T32 l t).f3 ≤ sz l t := by
 have v := hv.tv h0 h1
 have a0 := v.p3.2.2.1
 have a1 := v.p6 h3
 have hs := hv.siz a0 (by omega)
 have e := v.p7 h3
 refine ⟨a0, a1, Int.mul_nonneg k0 hs.1, ?_⟩
 have m : (k + 1) * sz l (rd_T32 l t).f3 ≤ (rd_T32 l t).f4 * sz l (rd_T32 l t).f3 := Int.mul_le_mul_of_nonneg_right (by omega) hs.1
 rw [Int.add_mul, Int.one_mul] at m
 have : sz l t = (rd_T32 l t).f2 := rfl
 omega

/-! ### paths -/
def fol (l : List S32) : List Int → Int → Int → Int → Int × Int × Int × Int
 | [], _, t, o => (t, o, 0, 0)
 | k :: ks, i, t, o =>
  if (rd_T32 l t).f0 = 4 then (if 0 ≤ k ∧ k < ((rd_T32 l t).f5.length : Int) then fol l ks (i + 1) (rd_T55 (rd_T32 l t).f5 k).f1 (o + (rd_T55 (rd_T32 l t).f5 k).f2) else (0, 0, 3, i))
  else if (rd_T32 l t).f0 = 3 then (if 0 ≤ k ∧ k < (rd_T32 l t).f4 then fol l ks (i + 1) (rd_T32 l t).f3 (o + k * sz l (rd_T32 l t).f3) else (0, 0, 3, i))
  else (0, 0, 8, i)
theorem rd_drop (p : List Int) (i : Nat) (h : i < p.length) : p.drop i = rd p (i : Int) :: p.drop (i + 1) := by
 rw [List.drop_eq_getElem_cons h]
 congr 1
 simp [rd, h]
def path (l : List S32) (t : Int) (p : List Int) : Int × Int × Int × Int :=
 if (fault2 l t).1 = 0 then (if p.length > 30 then (0, 0, 2, -3) else fol l p 0 t 0) else (0, 0, (fault2 l t).1, (fault2 l t).2)
attribute [local go_sem high] eqA25
set_option maxHeartbeats 2000000 in
theorem path_calls (w : World) (A : Option Addr) (c : Nat) (l : List S32) (hC : Kd.C k32 w A l.length l) (hc : l.length ≤ c) (hw : WfL l) (t0 : Int) (B : Option Addr) (d : Nat) (p : List Int) (hP : Kd.C (Kd.int .i64) w B p.length p) (hd : p.length ≤ d) (r1 r2 r3 r4 : Int) (hr : path l t0 p = (r1, r2, r3, r4)) :
 Calls Try.prog 15 #[.slice A l.length c, .int .i64 t0, .slice B p.length d] w fun e w' => e = .returned (.tuple #[.int .i64 r1, .int .i64 r2, .agg #[.int .i64 r3, .int .i64 r4]]) ∧ Below w.heap.size w w' := by
 obtain ⟨F1, F2, hF⟩ : ∃ a b, fault2 l t0 = (a, b) := ⟨_, _, rfl⟩
 obtain ⟨kc, hk⟩ := (checkType_ev hw t0).rounds
 rw [hF] at hk
 have HC := Aside0.mk hC
 have HCL := Aside0.mk hc
 have HP := Aside0.mk hP
 have HK := Aside0.mk hk
 clear hC hc hP hd hk
 unfold path at hr
 by_cases hz : (fault2 l t0).1 = 0
 case neg =>
  rw [if_neg hz, hF] at hr
  rw [hF] at hz
  obtain ⟨rfl, rfl, rfl, rfl⟩ : 0 = r1 ∧ 0 = r2 ∧ F1 = r3 ∧ F2 = r4 := by simpa using hr
  have hb : (!(F1 == 0 && (F2 == 0))) = true := by
   have a : ¬ F1 = 0 := hz
   by_cases b : F2 = 0 <;> simp_all
  clear hr hF hz
  go_enter Try.func15, Try.ntmps15
  go_wp2_with (first
   | ((with_reducible refine gate_dst (N := 8) rfl ?_); refine box_event ?hg (N := 8) ?hd (cs := #[.int .i64 0, .int .i64 0]) (t := 25) ?hr ?_; (case hd => rfl); (case hg => rfl); (case hr => first | (go_simp; done) | (go_simp; rfl)); intro g8 hg8 W1 hbx8 hb8; have HB6 := Aside0.mk hb8; have BX6 := Aside0.mk hbx8; have HG := Aside0.mk (show w.heap.size ≤ g8 from Nat.le_of_eq hg8.symm); clear hb8 hbx8 hg8)
   | ((with_reducible refine gate_dst (N := 9) rfl ?_); refine box_event ?hg (N := 9) ?hd (cs := #[.int .i64 0, .int .i64 0]) (t := 25) ?hr ?_; (case hd => rfl); (case hg => rfl); (case hr => first | (go_simp; done) | (go_simp; rfl)); intro g9 hg9 W3 hbx9 hb9; have N89 : g8 ≠ g9 := (by have := blk_lt BX7.out; omega); have BX8 := Aside0.mk (blk_below BX7.out hb9); have BY8 := Aside0.mk hbx9; have HB8 := Aside0.mk (below_step HB2.out hb9); have HG9 := Aside0.mk (show w.heap.size ≤ g9 from by have := HB2.out.size; omega); have hz0 := (blk_cell hbx9 0).trans rfl; have hz1 := (blk_cell hbx9 1).trans rfl; have hy0 := blk_frozen hbx9 0; have hy1 := blk_frozen hbx9 1; clear hb9 hbx9 hg9 BX7 HB2)
   | ((with_reducible refine gate_store (t := 25) (p := 9) rfl ?_); refine store_event (t := 25) (p := 9) (v := .tmp 17) (w1 := ((W3.setCell ⟨g9, 0, none⟩ (.int .i64 F1)).setCell ⟨g9, 1, none⟩ (.int .i64 F2))) ?hg ?ho ?hn ?hr ?_; (case ho => rfl); (case hg => rfl); (case hn => rfl); (case hr => first | (go_simp; done) | (go_simp; rfl)); intro W4 hw4; have B0 := Aside0.mk (show W4.heap[g8]? = some (.cells #[.int .i64 0, .int .i64 0] 25 (0, 0)) from by rw [hw4]; exact blk_far (blk_far BX8.out N89 _) N89 _); have BY9 := Aside0.mk (show W4.heap[g9]? = some (.cells #[.int .i64 F1, .int .i64 F2] 25 (0, 0)) from by rw [hw4]; exact boxed2 BY8.out); have HB := Aside0.mk (show Below w.heap.size w W4 from by rw [hw4]; exact below_set (below_set HB8.out HG9.out) HG9.out); clear hw4 hz0 hz1 hy0 hy1 BX8 BY8 HB8; have p8 := (blk_cell B0.out 0).trans rfl; have q8 := (blk_cell B0.out 1).trans rfl; have r8 := blk_frozen B0.out 0; have s8 := blk_frozen B0.out 1; have hs0 := (blk_cell BY9.out 0).trans rfl; have hs1 := (blk_cell BY9.out 1).trans rfl)
   | (go_at_call 28; refine (records_checkType.calls kc _ _ l t0 F1 F2 _ (Kd.C_below HC.out HB6.out) HCL.out HK.out).mono ?_; rintro e W2 ⟨rfl, hb2⟩; have BX7 := Aside0.mk (blk_below BX6.out hb2); have HB2 := Aside0.mk (below_step HB6.out hb2); clear hb2))
  go_region_held3 (fun w' => w'.cell? ⟨g9, 0, none⟩ = some (.int .i64 F1) ∧ w'.cell? ⟨g9, 1, none⟩ = some (.int .i64 F2)) (first | go_keep) (first | fail)
  go_wp2
  refine bodyPost_ret (results_list (rs := [.tmp 6, .tmp 7, .cell 8 25]) rfl (by simp) (.tmp (.tmp (.cell g8 25 #[.int .i64 F1, .int .i64 F2] (0, 0) _ rfl (blk_drew (boxed2 B0.out)) Try.underlying25 rfl (by kernel_rfl) .nil)))) rfl ?_
  exact ⟨rfl, below_drew1 (below_set (below_set HB.out HG.out) HG.out)⟩
 rw [if_pos hz] at hr
 have e2 := fault2_snd hz
 rw [hF] at e2
 obtain ⟨rfl, rfl⟩ := Prod.mk.inj e2
 obtain ⟨hv, ht0, ht1⟩ := fault2_zero.1 hz
 clear hF hz e2
 by_cases hl : p.length > 30
 case pos =>
  rw [if_pos hl] at hr
  obtain ⟨rfl, rfl, rfl, rfl⟩ : 0 = r1 ∧ 0 = r2 ∧ 2 = r3 ∧ -3 = r4 := by simpa using hr
  have d1 : decide (30 < (p.length : Int)) = true := decide_eq_true (by omega)
  have d2 : decide (30 < p.length) = true := decide_eq_true hl
  clear hr hl hv ht0 ht1
  go_enter Try.func15, Try.ntmps15
  go_wp2_with (first
   | ((with_reducible refine gate_dst (N := 8) rfl ?_); refine box_event ?hg (N := 8) ?hd (cs := #[.int .i64 0, .int .i64 0]) (t := 25) ?hr ?_; (case hd => rfl); (case hg => rfl); (case hr => first | (go_simp; done) | (go_simp; rfl)); intro g8 hg8 W1 hbx8 hb8; have HB6 := Aside0.mk hb8; have BX6 := Aside0.mk hbx8; have HG := Aside0.mk (show w.heap.size ≤ g8 from Nat.le_of_eq hg8.symm); clear hb8 hbx8 hg8)
   | ((with_reducible refine gate_dst (N := 9) rfl ?_); refine box_event ?hg (N := 9) ?hd (cs := #[.int .i64 0, .int .i64 0]) (t := 25) ?hr ?_; (case hd => rfl); (case hg => rfl); (case hr => first | (go_simp; done) | (go_simp; rfl)); intro g9 hg9 W3 hbx9 hb9; have N89 : g8 ≠ g9 := (by have := blk_lt BX7.out; omega); have BX8 := Aside0.mk (blk_below BX7.out hb9); have BY8 := Aside0.mk hbx9; have HB8 := Aside0.mk (below_step HB2.out hb9); have HG9 := Aside0.mk (show w.heap.size ≤ g9 from by have := HB2.out.size; omega); have hz0 := (blk_cell hbx9 0).trans rfl; have hz1 := (blk_cell hbx9 1).trans rfl; have hy0 := blk_frozen hbx9 0; have hy1 := blk_frozen hbx9 1; clear hb9 hbx9 hg9 BX7 HB2)
   | ((with_reducible refine gate_store (t := 25) (p := 9) rfl ?_); refine store_event (t := 25) (p := 9) (v := .tmp 17) (w1 := ((W3.setCell ⟨g9, 0, none⟩ (.int .i64 0)).setCell ⟨g9, 1, none⟩ (.int .i64 0))) ?hg ?ho ?hn ?hr ?_; (case ho => rfl); (case hg => rfl); (case hn => rfl); (case hr => first | (go_simp; done) | (go_simp; rfl)); intro W4 hw4; have B0 := Aside0.mk (show W4.heap[g8]? = some (.cells #[.int .i64 0, .int .i64 0] 25 (0, 0)) from by rw [hw4]; exact blk_far (blk_far BX8.out N89 _) N89 _); have BY9 := Aside0.mk (show W4.heap[g9]? = some (.cells #[.int .i64 0, .int .i64 0] 25 (0, 0)) from by rw [hw4]; exact boxed2 BY8.out); have HB := Aside0.mk (show Below w.heap.size w W4 from by rw [hw4]; exact below_set (below_set HB8.out HG9.out) HG9.out); clear hw4 hz0 hz1 hy0 hy1 BX8 BY8 HB8; have p8 := (blk_cell B0.out 0).trans rfl; have q8 := (blk_cell B0.out 1).trans rfl; have r8 := blk_frozen B0.out 0; have s8 := blk_frozen B0.out 1; have hs0 := (blk_cell BY9.out 0).trans rfl; have hs1 := (blk_cell BY9.out 1).trans rfl)
   | (go_at_call 28; refine (records_checkType.calls kc _ _ l t0 0 0 _ (Kd.C_below HC.out HB6.out) HCL.out HK.out).mono ?_; rintro e W2 ⟨rfl, hb2⟩; have BX7 := Aside0.mk (blk_below BX6.out hb2); have HB2 := Aside0.mk (below_step HB6.out hb2); clear hb2))
  refine bodyPost_ret (results_list (rs := [.tmp 6, .tmp 7, .cell 8 25]) rfl (by simp) (.tmp (.tmp (.cell g8 25 #[.int .i64 2, .int .i64 (-3)] (0, 0) _ rfl (boxed2 B0.out) Try.underlying25 rfl (by kernel_rfl) .nil)))) rfl ?_
  exact ⟨rfl, below_set (below_set HB.out HG.out) HG.out⟩
 rw [if_neg hl] at hr
 have HL := Aside0.mk (show p.length ≤ 30 ∧ l.length ≤ 30 from ⟨by omega, hv.1⟩)
 have HV := Aside0.mk hv
 have HR := Aside0.mk hr
 have HT := Aside0.mk (And.intro ht0 (And.intro ht1 (hv.siz ht0 ht1)))
 have d1 : decide (30 < (p.length : Int)) = false := decide_eq_false (by omega)
 have d2 : decide (30 < p.length) = false := decide_eq_false hl
 clear hr hl hv ht0 ht1
 go_enter Try.func15, Try.ntmps15
 go_wp2_with (first
  | ((with_reducible refine gate_dst (N := 8) rfl ?_); refine box_event ?hg (N := 8) ?hd (cs := #[.int .i64 0, .int .i64 0]) (t := 25) ?hr ?_; (case hd => rfl); (case hg => rfl); (case hr => first | (go_simp; done) | (go_simp; rfl)); intro g8 hg8 W1 hbx8 hb8; have HB6 := Aside0.mk hb8; have BX6 := Aside0.mk hbx8; have HG := Aside0.mk (show w.heap.size ≤ g8 from Nat.le_of_eq hg8.symm); clear hb8 hbx8 hg8)
  | ((with_reducible refine gate_dst (N := 9) rfl ?_); refine box_event ?hg (N := 9) ?hd (cs := #[.int .i64 0, .int .i64 0]) (t := 25) ?hr ?_; (case hd => rfl); (case hg => rfl); (case hr => first | (go_simp; done) | (go_simp; rfl)); intro g9 hg9 W3 hbx9 hb9; have N89 : g8 ≠ g9 := (by have := blk_lt BX7.out; omega); have BX8 := Aside0.mk (blk_below BX7.out hb9); have BY8 := Aside0.mk hbx9; have HB8 := Aside0.mk (below_step HB2.out hb9); have HG9 := Aside0.mk (show w.heap.size ≤ g9 from by have := HB2.out.size; omega); have hz0 := (blk_cell hbx9 0).trans rfl; have hz1 := (blk_cell hbx9 1).trans rfl; have hy0 := blk_frozen hbx9 0; have hy1 := blk_frozen hbx9 1; clear hb9 hbx9 hg9 BX7 HB2)
  | ((with_reducible refine gate_store (t := 25) (p := 9) rfl ?_); refine store_event (t := 25) (p := 9) (v := .tmp 17) (w1 := ((W3.setCell ⟨g9, 0, none⟩ (.int .i64 0)).setCell ⟨g9, 1, none⟩ (.int .i64 0))) ?hg ?ho ?hn ?hr ?_; (case ho => rfl); (case hg => rfl); (case hn => rfl); (case hr => first | (go_simp; done) | (go_simp; rfl)); intro W4 hw4; have B0 := Aside0.mk (show W4.heap[g8]? = some (.cells #[.int .i64 0, .int .i64 0] 25 (0, 0)) from by rw [hw4]; exact blk_far (blk_far BX8.out N89 _) N89 _); have BY9 := Aside0.mk (show W4.heap[g9]? = some (.cells #[.int .i64 0, .int .i64 0] 25 (0, 0)) from by rw [hw4]; exact boxed2 BY8.out); have HB := Aside0.mk (show Below w.heap.size w W4 from by rw [hw4]; exact below_set (below_set HB8.out HG9.out) HG9.out); clear hw4 hz0 hz1 hy0 hy1 BX8 BY8 HB8; have p8 := (blk_cell B0.out 0).trans rfl; have q8 := (blk_cell B0.out 1).trans rfl; have r8 := blk_frozen B0.out 0; have s8 := blk_frozen B0.out 1; have hs0 := (blk_cell BY9.out 0).trans rfl; have hs1 := (blk_cell BY9.out 1).trans rfl)
  | (go_at_call 28; refine (records_checkType.calls kc _ _ l t0 0 0 _ (Kd.C_below HC.out HB6.out) HCL.out HK.out).mono ?_; rintro e W2 ⟨rfl, hb2⟩; have BX7 := Aside0.mk (blk_below BX6.out hb2); have HB2 := Aside0.mk (below_step HB6.out hb2); clear hb2))
 clear p8 q8 r8 s8 hs0 hs1
 go_loopg [1, 10, 28] p.length (fun kq v1 v10 v28 w' => ∃ (q : Nat) (t o : Int), v1 = .int .i64 t ∧ v10 = .int .i64 o ∧ v28 = .int .i64 (q : Int) ∧ Aside0 (q + kq = p.length) ∧ Aside0 (0 ≤ t ∧ t < (l.length : Int) ∧ 0 ≤ o ∧ o + sz l t ≤ 1000000) ∧ Aside0 (fol l (p.drop q) q t o = (r1, r2, r3, r4)) ∧ Aside0 (w'.heap[g8]? = some (.cells #[.int .i64 0, .int .i64 0] 25 (0, 0))) ∧ Aside0 (Below w.heap.size w w'))
 case atStart => exact ⟨0, t0, 0, rfl, rfl, rfl, ⟨by omega⟩, ⟨by have := HT.out; omega⟩, HR, B0, HB⟩
 case round =>
  clear B0 HB HR HT BY9 d1 d2
  obtain ⟨q, t, o, rfl, rfl, rfl, HQ, HT, HS, B0, HB⟩ := hrel
  cases gk with
  | zero =>
   obtain rfl : q = p.length := by have := HQ.out; omega
   obtain ⟨rfl, rfl, rfl, rfl⟩ : t = r1 ∧ o = r2 ∧ 0 = r3 ∧ 0 = r4 := by have h := HS.out; rw [List.drop_eq_nil_of_le (Nat.le_refl _), fol] at h; simpa using h
   have d1 : decide ((p.length : Int) < (p.length : Int)) = false := decide_eq_false (by omega)
   have p8 := (blk_cell B0.out 0).trans rfl
   have q8 := (blk_cell B0.out 1).trans rfl
   have r8 := blk_frozen B0.out 0
   have s8 := blk_frozen B0.out 1
   go_wp2
   refine bodyPost_ret (results_list (rs := [.tmp 6, .tmp 7, .cell 8 25]) rfl (by simp) (.tmp (.tmp (.cell g8 25 #[.int .i64 0, .int .i64 0] (0, 0) _ rfl (boxed2 B0.out) Try.underlying25 rfl (by kernel_rfl) .nil)))) rfl ?_
   exact ⟨rfl, below_set (below_set HB.out HG.out) HG.out⟩
  | succ dd =>
   have hlq : q < p.length := by have := HQ.out; omega
   have hl30 := HL.out
   obtain ⟨t0, t1, o0, o1⟩ := HT.out
   have hS := HS.out
   rw [rd_drop p q hlq, fol] at hS
   have tv := HV.out.tv t0 t1
   have hfd := fun k (k0 : 0 ≤ k) (k1 : k < ((rd_T32 l t).f5.length : Int)) => HV.out.fld t0 t1 k0 k1
   have hel := fun (h3 : (rd_T32 l t).f0 = 3) k (k0 : 0 ≤ k) (k1 : k < (rd_T32 l t).f4) => HV.out.elt t0 t1 h3 k0 k1
   obtain ⟨ad, A5, c5, eA, x0, x1, x2, x3, x4, x5, hl5, hi5⟩ := at_T32 HC.out t t0 t1
   subst eA
   obtain ⟨bd, eB, hpc⟩ := Kd.at_int HP.out (q : Int) (by omega) (by omega)
   subst eB
   rw [Int.toNat_natCast] at hpc
   have hsz : sz l t = (rd_T32 l t).f2 := rfl
   generalize rd_T32 l t = x at *
   generalize rd p (q : Int) = kk at *
   have HI5 := Aside0.mk hi5
   have TV0 := Aside0.mk tv
   have HF := Aside0.mk hfd
   have HE := Aside0.mk hel
   have HSZ := Aside0.mk hsz
   have HS1 := Aside0.mk hS
   have d1 : decide ((q : Int) < (p.length : Int)) = true := decide_eq_true (by omega)
   have d2 : decide ((0 : Int) ≤ (q : Int)) = true := decide_eq_true (by omega)
   have d3 : ((0 : Int) ≤ (q : Int)) = True := eq_true (by omega)
   have d4 : ((q : Int) < (p.length : Int)) = True := eq_true (by omega)
   have d5 : decide ((0 : Int) ≤ t) = true := decide_eq_true t0
   have d6 : decide (t < (l.length : Int)) = true := decide_eq_true t1
   have d7 : ((0 : Int) ≤ t) = True := eq_true t0
   have d8 : (t < (l.length : Int)) = True := eq_true t1
   have hq1 : wrap64 ((q : Int) + 1) = ((q + 1 : Nat) : Int) := by rw [w64 (by omega) (by omega)]; rfl
   have HQ1 := Aside0.mk hq1
   have hp0 := (HB.out.cell (World.block_lt_of_cell? w _ hpc)).trans hpc
   clear hpc hi5 tv hfd hel hsz hS hq1 hl30 t0 t1 o0 o1 hl5 HS
   replace x0 := (HB.out.cell (World.block_lt_of_cell? w _ x0)).trans x0
   replace x1 := (HB.out.cell (World.block_lt_of_cell? w _ x1)).trans x1
   replace x2 := (HB.out.cell (World.block_lt_of_cell? w _ x2)).trans x2
   replace x3 := (HB.out.cell (World.block_lt_of_cell? w _ x3)).trans x3
   replace x4 := (HB.out.cell (World.block_lt_of_cell? w _ x4)).trans x4
   replace x5 := (HB.out.cell (World.block_lt_of_cell? w _ x5)).trans x5
   by_cases k4 : x.f0 = 4
   case pos =>
    have k4b : (x.f0 == 4) = true := beq_iff_eq.mpr k4
    have hS := HS1.out
    rw [if_pos k4] at hS
    by_cases n0 : kk < 0
    case pos =>
     obtain ⟨rfl, rfl, rfl, rfl⟩ : 0 = r1 ∧ 0 = r2 ∧ 3 = r3 ∧ (q : Int) = r4 := by rw [if_neg (by omega)] at hS; simpa using hS
     have a1 : decide (kk < 0) = true := decide_eq_true n0
     clear hS n0 k4
     go_wp2_with (first
      | ((with_reducible refine gate_dst (N := 13) rfl ?_); refine box_event ?hg (N := 13) ?hd (cs := #[.int .i64 0, .string (⟨#[]⟩ : ByteArray), .int .i64 0, .int .i64 0, .int .i64 0, .slice none 0 0]) (t := 32) ?hr ?_; (case hd => rfl); (case hg => rfl); (case hr => first | (go_simp; done) | (go_simp; rfl)); intro gx hgb W7 hbx hb7; have hz0 := (blk_cell hbx 0).trans rfl; have hy0 := blk_frozen hbx 0; have hz1 := (blk_cell hbx 1).trans rfl; have hy1 := blk_frozen hbx 1; have hz2 := (blk_cell hbx 2).trans rfl; have hy2 := blk_frozen hbx 2; have hz3 := (blk_cell hbx 3).trans rfl; have hy3 := blk_frozen hbx 3; have hz4 := (blk_cell hbx 4).trans rfl; have hy4 := blk_frozen hbx 4; have hz5 := (blk_cell hbx 5).trans rfl; have hy5 := blk_frozen hbx 5; have HX := Aside0.mk (And.intro hgb (And.intro hbx hb7)); clear hbx hb7 hgb)
      | ((with_reducible refine gate_store (t := 32) (p := 13) rfl ?_); refine store_event (t := 32) (p := 13) (v := .tmp 36) (w1 := ((((((W7.setCell ⟨gx, 0, none⟩ (.int .i64 x.f0)).setCell ⟨gx, 1, none⟩ (.string x.f1)).setCell ⟨gx, 2, none⟩ (.int .i64 x.f2)).setCell ⟨gx, 3, none⟩ (.int .i64 x.f3)).setCell ⟨gx, 4, none⟩ (.int .i64 x.f4)).setCell ⟨gx, 5, none⟩ (.slice A5 x.f5.length c5))) ?hg ?ho ?hn ?hr ?_; (case ho => rfl); (case hg => rfl); (case hn => rfl); (case hr => first | (go_simp; done) | (go_simp; rfl)); intro W8 hw8; have BX8 := Aside0.mk (show W8.heap[gx]? = some (.cells #[.int .i64 x.f0, .string x.f1, .int .i64 x.f2, .int .i64 x.f3, .int .i64 x.f4, .slice A5 x.f5.length c5] 32 (0, 0)) from by rw [hw8]; exact boxed6 HX.out.2.1); have HB1 := Aside0.mk (show Below wr.heap.size wr W8 from by rw [hw8]; (repeat refine below_set ?_ (Nat.le_of_eq HX.out.1.symm)); exact HX.out.2.2); have HB8 := Aside0.mk (below_step HB.out HB1.out); have B8 := Aside0.mk (blk_below B0.out HB1.out); clear hw8 HX hz0 hy0 hz1 hy1 hz2 hy2 hz3 hy3 hz4 hy4 hz5 hy5 x0 x1 x2 x3 x4 x5 hp0; have X0 := (blk_cell BX8.out 0).trans rfl; have X1 := (blk_cell BX8.out 1).trans rfl; have X2 := (blk_cell BX8.out 2).trans rfl; have X3 := (blk_cell BX8.out 3).trans rfl; have X4 := (blk_cell BX8.out 4).trans rfl; have X5 := (blk_cell BX8.out 5).trans rfl; have p8 := (blk_cell B8.out 0).trans rfl; have q8 := (blk_cell B8.out 1).trans rfl; have r8 := blk_frozen B8.out 0; have s8 := blk_frozen B8.out 1))
     refine bodyPost_ret (results_list (rs := [.tmp 6, .tmp 7, .cell 8 25]) rfl (by simp) (.tmp (.tmp (.cell g8 25 #[.int .i64 3, .int .i64 (q : Int)] (0, 0) _ rfl (boxed2 B8.out) Try.underlying25 rfl (by kernel_rfl) .nil)))) rfl ?_
     exact ⟨rfl, below_set (below_set HB8.out HG.out) HG.out⟩
    have a1 : decide (kk < 0) = false := decide_eq_false n0
    by_cases n1 : kk ≥ (x.f5.length : Int)
    case pos =>
     obtain ⟨rfl, rfl, rfl, rfl⟩ : 0 = r1 ∧ 0 = r2 ∧ 3 = r3 ∧ (q : Int) = r4 := by rw [if_neg (by omega)] at hS; simpa using hS
     have a2 : decide ((x.f5.length : Int) ≤ kk) = true := decide_eq_true n1
     clear hS n0 n1 k4
     go_wp2_with (first
      | ((with_reducible refine gate_dst (N := 13) rfl ?_); refine box_event ?hg (N := 13) ?hd (cs := #[.int .i64 0, .string (⟨#[]⟩ : ByteArray), .int .i64 0, .int .i64 0, .int .i64 0, .slice none 0 0]) (t := 32) ?hr ?_; (case hd => rfl); (case hg => rfl); (case hr => first | (go_simp; done) | (go_simp; rfl)); intro gx hgb W7 hbx hb7; have hz0 := (blk_cell hbx 0).trans rfl; have hy0 := blk_frozen hbx 0; have hz1 := (blk_cell hbx 1).trans rfl; have hy1 := blk_frozen hbx 1; have hz2 := (blk_cell hbx 2).trans rfl; have hy2 := blk_frozen hbx 2; have hz3 := (blk_cell hbx 3).trans rfl; have hy3 := blk_frozen hbx 3; have hz4 := (blk_cell hbx 4).trans rfl; have hy4 := blk_frozen hbx 4; have hz5 := (blk_cell hbx 5).trans rfl; have hy5 := blk_frozen hbx 5; have HX := Aside0.mk (And.intro hgb (And.intro hbx hb7)); clear hbx hb7 hgb)
      | ((with_reducible refine gate_store (t := 32) (p := 13) rfl ?_); refine store_event (t := 32) (p := 13) (v := .tmp 36) (w1 := ((((((W7.setCell ⟨gx, 0, none⟩ (.int .i64 x.f0)).setCell ⟨gx, 1, none⟩ (.string x.f1)).setCell ⟨gx, 2, none⟩ (.int .i64 x.f2)).setCell ⟨gx, 3, none⟩ (.int .i64 x.f3)).setCell ⟨gx, 4, none⟩ (.int .i64 x.f4)).setCell ⟨gx, 5, none⟩ (.slice A5 x.f5.length c5))) ?hg ?ho ?hn ?hr ?_; (case ho => rfl); (case hg => rfl); (case hn => rfl); (case hr => first | (go_simp; done) | (go_simp; rfl)); intro W8 hw8; have BX8 := Aside0.mk (show W8.heap[gx]? = some (.cells #[.int .i64 x.f0, .string x.f1, .int .i64 x.f2, .int .i64 x.f3, .int .i64 x.f4, .slice A5 x.f5.length c5] 32 (0, 0)) from by rw [hw8]; exact boxed6 HX.out.2.1); have HB1 := Aside0.mk (show Below wr.heap.size wr W8 from by rw [hw8]; (repeat refine below_set ?_ (Nat.le_of_eq HX.out.1.symm)); exact HX.out.2.2); have HB8 := Aside0.mk (below_step HB.out HB1.out); have B8 := Aside0.mk (blk_below B0.out HB1.out); clear hw8 HX hz0 hy0 hz1 hy1 hz2 hy2 hz3 hy3 hz4 hy4 hz5 hy5 x0 x1 x2 x3 x4 x5 hp0; have X0 := (blk_cell BX8.out 0).trans rfl; have X1 := (blk_cell BX8.out 1).trans rfl; have X2 := (blk_cell BX8.out 2).trans rfl; have X3 := (blk_cell BX8.out 3).trans rfl; have X4 := (blk_cell BX8.out 4).trans rfl; have X5 := (blk_cell BX8.out 5).trans rfl; have p8 := (blk_cell B8.out 0).trans rfl; have q8 := (blk_cell B8.out 1).trans rfl; have r8 := blk_frozen B8.out 0; have s8 := blk_frozen B8.out 1))
     refine bodyPost_ret (results_list (rs := [.tmp 6, .tmp 7, .cell 8 25]) rfl (by simp) (.tmp (.tmp (.cell g8 25 #[.int .i64 3, .int .i64 (q : Int)] (0, 0) _ rfl (boxed2 B8.out) Try.underlying25 rfl (by kernel_rfl) .nil)))) rfl ?_
     exact ⟨rfl, below_set (below_set HB8.out HG.out) HG.out⟩
    have a2 : decide ((x.f5.length : Int) ≤ kk) = false := decide_eq_false n1
    obtain ⟨e0, e1, e2, e3⟩ := HF.out kk (by omega) (by omega)
    rw [if_pos (by omega)] at hS
    have tl := HT.out
    have hz := HV.out.siz e0 (by omega)
    obtain ⟨fd5, eF, y0, y1, y2⟩ := at_T55 HI5.out kk (by omega) (by omega)
    subst eF
    have HY := Aside0.mk (And.intro y1 y2)
    have b1 : decide ((0 : Int) ≤ kk) = true := decide_eq_true (by omega)
    have b2 : decide (kk < (x.f5.length : Int)) = true := decide_eq_true (by omega)
    have b3 : ((0 : Int) ≤ kk) = True := eq_true (by omega)
    have b4 : (kk < (x.f5.length : Int)) = True := eq_true (by omega)
    have HW := Aside0.mk (show wrap64 (o + (rd_T55 x.f5 kk).f2) = o + (rd_T55 x.f5 kk).f2 from w64 (by have := HSZ.out; omega) (by have := HSZ.out; omega))
    have HTn := Aside0.mk (show 0 ≤ (rd_T55 x.f5 kk).f1 ∧ (rd_T55 x.f5 kk).f1 < (l.length : Int) ∧ 0 ≤ o + (rd_T55 x.f5 kk).f2 ∧ o + (rd_T55 x.f5 kk).f2 + sz l (rd_T55 x.f5 kk).f1 ≤ 1000000 from by have := HSZ.out; omega)
    have HSn := Aside0.mk hS
    clear hS n0 n1 k4 e0 e1 e2 e3 tl hz y0 y1 y2
    go_wp2_with (first
     | ((with_reducible refine gate_dst (N := 13) rfl ?_); refine box_event ?hg (N := 13) ?hd (cs := #[.int .i64 0, .string (⟨#[]⟩ : ByteArray), .int .i64 0, .int .i64 0, .int .i64 0, .slice none 0 0]) (t := 32) ?hr ?_; (case hd => rfl); (case hg => rfl); (case hr => first | (go_simp; done) | (go_simp; rfl)); intro gx hgb W7 hbx hb7; have hz0 := (blk_cell hbx 0).trans rfl; have hy0 := blk_frozen hbx 0; have hz1 := (blk_cell hbx 1).trans rfl; have hy1 := blk_frozen hbx 1; have hz2 := (blk_cell hbx 2).trans rfl; have hy2 := blk_frozen hbx 2; have hz3 := (blk_cell hbx 3).trans rfl; have hy3 := blk_frozen hbx 3; have hz4 := (blk_cell hbx 4).trans rfl; have hy4 := blk_frozen hbx 4; have hz5 := (blk_cell hbx 5).trans rfl; have hy5 := blk_frozen hbx 5; have HX := Aside0.mk (And.intro hgb (And.intro hbx hb7)); clear hbx hb7 hgb)
     | ((with_reducible refine gate_store (t := 32) (p := 13) rfl ?_); refine store_event (t := 32) (p := 13) (v := .tmp 36) (w1 := ((((((W7.setCell ⟨gx, 0, none⟩ (.int .i64 x.f0)).setCell ⟨gx, 1, none⟩ (.string x.f1)).setCell ⟨gx, 2, none⟩ (.int .i64 x.f2)).setCell ⟨gx, 3, none⟩ (.int .i64 x.f3)).setCell ⟨gx, 4, none⟩ (.int .i64 x.f4)).setCell ⟨gx, 5, none⟩ (.slice (some fd5) x.f5.length c5))) ?hg ?ho ?hn ?hr ?_; (case ho => rfl); (case hg => rfl); (case hn => rfl); (case hr => first | (go_simp; done) | (go_simp; rfl)); intro W8 hw8; have BX8 := Aside0.mk (show W8.heap[gx]? = some (.cells #[.int .i64 x.f0, .string x.f1, .int .i64 x.f2, .int .i64 x.f3, .int .i64 x.f4, .slice (some fd5) x.f5.length c5] 32 (0, 0)) from by rw [hw8]; exact boxed6 HX.out.2.1); have HB1 := Aside0.mk (show Below wr.heap.size wr W8 from by rw [hw8]; (repeat refine below_set ?_ (Nat.le_of_eq HX.out.1.symm)); exact HX.out.2.2); have HB8 := Aside0.mk (below_step HB.out HB1.out); have B8 := Aside0.mk (blk_below B0.out HB1.out); clear hw8 HX hz0 hy0 hz1 hy1 hz2 hy2 hz3 hy3 hz4 hy4 hz5 hy5 x0 x1 x2 x3 x4 x5 hp0; have X0 := (blk_cell BX8.out 0).trans rfl; have X1 := (blk_cell BX8.out 1).trans rfl; have X2 := (blk_cell BX8.out 2).trans rfl; have X3 := (blk_cell BX8.out 3).trans rfl; have X4 := (blk_cell BX8.out 4).trans rfl; have X5 := (blk_cell BX8.out 5).trans rfl; have p8 := (blk_cell B8.out 0).trans rfl; have q8 := (blk_cell B8.out 1).trans rfl; have r8 := blk_frozen B8.out 0; have s8 := blk_frozen B8.out 1; have y8 := (HB8.out.cell (World.block_lt_of_cell? w _ HY.out.1)).trans HY.out.1; have z8 := (HB8.out.cell (World.block_lt_of_cell? w _ HY.out.2)).trans HY.out.2))
    go_region_held3 (fun w' => w'.cell? ⟨gx, 3, none⟩ = some (.int .i64 x.f3) ∧ w'.cell? ⟨gx, 5, none⟩ = some (.slice (some fd5) x.f5.length c5) ∧ w'.cell? ⟨(fd5.add (kk.toNat * 3)).block, (fd5.add (kk.toNat * 3)).off + 1, none⟩ = some (.int .i64 (rd_T55 x.f5 kk).f1) ∧ w'.cell? ⟨(fd5.add (kk.toNat * 3)).block, (fd5.add (kk.toNat * 3)).off + 2, none⟩ = some (.int .i64 (rd_T55 x.f5 kk).f2)) (first | go_keep) (first | fail)
    go_wp2
    go_roundg dd
    case measure => omega
    case rel => exact ⟨q + 1, _, _, rfl, by simp only [i64_w]; rw [HW.out], by first | rw [HQ1.out] | (simp only [i64_w]; rw [HQ1.out]), ⟨by have := HQ.out; omega⟩, HTn, ⟨by have h := HSn.out; rwa [Int.natCast_add] ⟩, ⟨blk_drew B8.out⟩, ⟨below_drew1 HB8.out⟩⟩
   have k4b : (x.f0 == 4) = false := beq_eq_false_iff_ne.mpr k4
   by_cases k3 : x.f0 = 3
   case pos =>
    have k3b : (x.f0 == 3) = true := beq_iff_eq.mpr k3
    have hS := HS1.out
    rw [if_neg k4, if_pos k3] at hS
    have hn := HE.out k3
    by_cases n0 : kk < 0
    case pos =>
     obtain ⟨rfl, rfl, rfl, rfl⟩ : 0 = r1 ∧ 0 = r2 ∧ 3 = r3 ∧ (q : Int) = r4 := by rw [if_neg (by omega)] at hS; simpa using hS
     have a1 : decide (kk < 0) = true := decide_eq_true n0
     clear hS n0 hn k3 k4
     go_wp2_with (first
      | ((with_reducible refine gate_dst (N := 13) rfl ?_); refine box_event ?hg (N := 13) ?hd (cs := #[.int .i64 0, .string (⟨#[]⟩ : ByteArray), .int .i64 0, .int .i64 0, .int .i64 0, .slice none 0 0]) (t := 32) ?hr ?_; (case hd => rfl); (case hg => rfl); (case hr => first | (go_simp; done) | (go_simp; rfl)); intro gx hgb W7 hbx hb7; have hz0 := (blk_cell hbx 0).trans rfl; have hy0 := blk_frozen hbx 0; have hz1 := (blk_cell hbx 1).trans rfl; have hy1 := blk_frozen hbx 1; have hz2 := (blk_cell hbx 2).trans rfl; have hy2 := blk_frozen hbx 2; have hz3 := (blk_cell hbx 3).trans rfl; have hy3 := blk_frozen hbx 3; have hz4 := (blk_cell hbx 4).trans rfl; have hy4 := blk_frozen hbx 4; have hz5 := (blk_cell hbx 5).trans rfl; have hy5 := blk_frozen hbx 5; have HX := Aside0.mk (And.intro hgb (And.intro hbx hb7)); clear hbx hb7 hgb)
      | ((with_reducible refine gate_store (t := 32) (p := 13) rfl ?_); refine store_event (t := 32) (p := 13) (v := .tmp 36) (w1 := ((((((W7.setCell ⟨gx, 0, none⟩ (.int .i64 x.f0)).setCell ⟨gx, 1, none⟩ (.string x.f1)).setCell ⟨gx, 2, none⟩ (.int .i64 x.f2)).setCell ⟨gx, 3, none⟩ (.int .i64 x.f3)).setCell ⟨gx, 4, none⟩ (.int .i64 x.f4)).setCell ⟨gx, 5, none⟩ (.slice A5 x.f5.length c5))) ?hg ?ho ?hn ?hr ?_; (case ho => rfl); (case hg => rfl); (case hn => rfl); (case hr => first | (go_simp; done) | (go_simp; rfl)); intro W8 hw8; have BX8 := Aside0.mk (show W8.heap[gx]? = some (.cells #[.int .i64 x.f0, .string x.f1, .int .i64 x.f2, .int .i64 x.f3, .int .i64 x.f4, .slice A5 x.f5.length c5] 32 (0, 0)) from by rw [hw8]; exact boxed6 HX.out.2.1); have HB1 := Aside0.mk (show Below wr.heap.size wr W8 from by rw [hw8]; (repeat refine below_set ?_ (Nat.le_of_eq HX.out.1.symm)); exact HX.out.2.2); have HB8 := Aside0.mk (below_step HB.out HB1.out); have B8 := Aside0.mk (blk_below B0.out HB1.out); clear hw8 HX hz0 hy0 hz1 hy1 hz2 hy2 hz3 hy3 hz4 hy4 hz5 hy5 x0 x1 x2 x3 x4 x5 hp0; have X0 := (blk_cell BX8.out 0).trans rfl; have X1 := (blk_cell BX8.out 1).trans rfl; have X2 := (blk_cell BX8.out 2).trans rfl; have X3 := (blk_cell BX8.out 3).trans rfl; have X4 := (blk_cell BX8.out 4).trans rfl; have X5 := (blk_cell BX8.out 5).trans rfl; have p8 := (blk_cell B8.out 0).trans rfl; have q8 := (blk_cell B8.out 1).trans rfl; have r8 := blk_frozen B8.out 0; have s8 := blk_frozen B8.out 1))
     refine bodyPost_ret (results_list (rs := [.tmp 6, .tmp 7, .cell 8 25]) rfl (by simp) (.tmp (.tmp (.cell g8 25 #[.int .i64 3, .int .i64 (q : Int)] (0, 0) _ rfl (boxed2 B8.out) Try.underlying25 rfl (by kernel_rfl) .nil)))) rfl ?_
     exact ⟨rfl, below_set (below_set HB8.out HG.out) HG.out⟩
    have a1 : decide (kk < 0) = false := decide_eq_false n0
    by_cases n1 : kk ≥ x.f4
    case pos =>
     obtain ⟨rfl, rfl, rfl, rfl⟩ : 0 = r1 ∧ 0 = r2 ∧ 3 = r3 ∧ (q : Int) = r4 := by rw [if_neg (by omega)] at hS; simpa using hS
     have a2 : decide (x.f4 ≤ kk) = true := decide_eq_true n1
     clear hS n0 n1 hn k3 k4
     go_wp2_with (first
      | ((with_reducible refine gate_dst (N := 13) rfl ?_); refine box_event ?hg (N := 13) ?hd (cs := #[.int .i64 0, .string (⟨#[]⟩ : ByteArray), .int .i64 0, .int .i64 0, .int .i64 0, .slice none 0 0]) (t := 32) ?hr ?_; (case hd => rfl); (case hg => rfl); (case hr => first | (go_simp; done) | (go_simp; rfl)); intro gx hgb W7 hbx hb7; have hz0 := (blk_cell hbx 0).trans rfl; have hy0 := blk_frozen hbx 0; have hz1 := (blk_cell hbx 1).trans rfl; have hy1 := blk_frozen hbx 1; have hz2 := (blk_cell hbx 2).trans rfl; have hy2 := blk_frozen hbx 2; have hz3 := (blk_cell hbx 3).trans rfl; have hy3 := blk_frozen hbx 3; have hz4 := (blk_cell hbx 4).trans rfl; have hy4 := blk_frozen hbx 4; have hz5 := (blk_cell hbx 5).trans rfl; have hy5 := blk_frozen hbx 5; have HX := Aside0.mk (And.intro hgb (And.intro hbx hb7)); clear hbx hb7 hgb)
      | ((with_reducible refine gate_store (t := 32) (p := 13) rfl ?_); refine store_event (t := 32) (p := 13) (v := .tmp 36) (w1 := ((((((W7.setCell ⟨gx, 0, none⟩ (.int .i64 x.f0)).setCell ⟨gx, 1, none⟩ (.string x.f1)).setCell ⟨gx, 2, none⟩ (.int .i64 x.f2)).setCell ⟨gx, 3, none⟩ (.int .i64 x.f3)).setCell ⟨gx, 4, none⟩ (.int .i64 x.f4)).setCell ⟨gx, 5, none⟩ (.slice A5 x.f5.length c5))) ?hg ?ho ?hn ?hr ?_; (case ho => rfl); (case hg => rfl); (case hn => rfl); (case hr => first | (go_simp; done) | (go_simp; rfl)); intro W8 hw8; have BX8 := Aside0.mk (show W8.heap[gx]? = some (.cells #[.int .i64 x.f0, .string x.f1, .int .i64 x.f2, .int .i64 x.f3, .int .i64 x.f4, .slice A5 x.f5.length c5] 32 (0, 0)) from by rw [hw8]; exact boxed6 HX.out.2.1); have HB1 := Aside0.mk (show Below wr.heap.size wr W8 from by rw [hw8]; (repeat refine below_set ?_ (Nat.le_of_eq HX.out.1.symm)); exact HX.out.2.2); have HB8 := Aside0.mk (below_step HB.out HB1.out); have B8 := Aside0.mk (blk_below B0.out HB1.out); clear hw8 HX hz0 hy0 hz1 hy1 hz2 hy2 hz3 hy3 hz4 hy4 hz5 hy5 x0 x1 x2 x3 x4 x5 hp0; have X0 := (blk_cell BX8.out 0).trans rfl; have X1 := (blk_cell BX8.out 1).trans rfl; have X2 := (blk_cell BX8.out 2).trans rfl; have X3 := (blk_cell BX8.out 3).trans rfl; have X4 := (blk_cell BX8.out 4).trans rfl; have X5 := (blk_cell BX8.out 5).trans rfl; have p8 := (blk_cell B8.out 0).trans rfl; have q8 := (blk_cell B8.out 1).trans rfl; have r8 := blk_frozen B8.out 0; have s8 := blk_frozen B8.out 1))
     refine bodyPost_ret (results_list (rs := [.tmp 6, .tmp 7, .cell 8 25]) rfl (by simp) (.tmp (.tmp (.cell g8 25 #[.int .i64 3, .int .i64 (q : Int)] (0, 0) _ rfl (boxed2 B8.out) Try.underlying25 rfl (by kernel_rfl) .nil)))) rfl ?_
     exact ⟨rfl, below_set (below_set HB8.out HG.out) HG.out⟩
    have a2 : decide (x.f4 ≤ kk) = false := decide_eq_false n1
    obtain ⟨e0, e1, e2, e3⟩ := hn kk (by omega) (by omega)
    rw [if_pos (by omega)] at hS
    have tl := HT.out
    have hz := HV.out.siz e0 (by omega)
    obtain ⟨_, _, _, eA, _, _, y2, _⟩ := at_T32 HC.out x.f3 e0 (by omega)
    cases eA
    have HY := Aside0.mk y2
    have b1 : decide ((0 : Int) ≤ x.f3) = true := decide_eq_true e0
    have b2 : decide (x.f3 < (l.length : Int)) = true := decide_eq_true (by omega)
    have b3 : ((0 : Int) ≤ x.f3) = True := eq_true e0
    have b4 : (x.f3 < (l.length : Int)) = True := eq_true (by omega)
    have HW := Aside0.mk (show wrap64 (o + wrap64 (kk * (rd_T32 l x.f3).f2)) = o + kk * sz l x.f3 from by
     rw [show (rd_T32 l x.f3).f2 = sz l x.f3 from rfl, w64 (v := kk * sz l x.f3) (by have := HSZ.out; omega) (by have := HSZ.out; omega)]
     exact w64 (by have := HSZ.out; omega) (by have := HSZ.out; omega))
    have HTn := Aside0.mk (show 0 ≤ x.f3 ∧ x.f3 < (l.length : Int) ∧ 0 ≤ o + kk * sz l x.f3 ∧ o + kk * sz l x.f3 + sz l x.f3 ≤ 1000000 from by have := HSZ.out; omega)
    have HSn := Aside0.mk hS
    clear hS hn n0 n1 k3 k4 e0 e1 e2 e3 tl hz y2
    go_wp2_with (first
     | ((with_reducible refine gate_dst (N := 13) rfl ?_); refine box_event ?hg (N := 13) ?hd (cs := #[.int .i64 0, .string (⟨#[]⟩ : ByteArray), .int .i64 0, .int .i64 0, .int .i64 0, .slice none 0 0]) (t := 32) ?hr ?_; (case hd => rfl); (case hg => rfl); (case hr => first | (go_simp; done) | (go_simp; rfl)); intro gx hgb W7 hbx hb7; have hz0 := (blk_cell hbx 0).trans rfl; have hy0 := blk_frozen hbx 0; have hz1 := (blk_cell hbx 1).trans rfl; have hy1 := blk_frozen hbx 1; have hz2 := (blk_cell hbx 2).trans rfl; have hy2 := blk_frozen hbx 2; have hz3 := (blk_cell hbx 3).trans rfl; have hy3 := blk_frozen hbx 3; have hz4 := (blk_cell hbx 4).trans rfl; have hy4 := blk_frozen hbx 4; have hz5 := (blk_cell hbx 5).trans rfl; have hy5 := blk_frozen hbx 5; have HX := Aside0.mk (And.intro hgb (And.intro hbx hb7)); clear hbx hb7 hgb)
     | ((with_reducible refine gate_store (t := 32) (p := 13) rfl ?_); refine store_event (t := 32) (p := 13) (v := .tmp 36) (w1 := ((((((W7.setCell ⟨gx, 0, none⟩ (.int .i64 x.f0)).setCell ⟨gx, 1, none⟩ (.string x.f1)).setCell ⟨gx, 2, none⟩ (.int .i64 x.f2)).setCell ⟨gx, 3, none⟩ (.int .i64 x.f3)).setCell ⟨gx, 4, none⟩ (.int .i64 x.f4)).setCell ⟨gx, 5, none⟩ (.slice A5 x.f5.length c5))) ?hg ?ho ?hn ?hr ?_; (case ho => rfl); (case hg => rfl); (case hn => rfl); (case hr => first | (go_simp; done) | (go_simp; rfl)); intro W8 hw8; have BX8 := Aside0.mk (show W8.heap[gx]? = some (.cells #[.int .i64 x.f0, .string x.f1, .int .i64 x.f2, .int .i64 x.f3, .int .i64 x.f4, .slice A5 x.f5.length c5] 32 (0, 0)) from by rw [hw8]; exact boxed6 HX.out.2.1); have HB1 := Aside0.mk (show Below wr.heap.size wr W8 from by rw [hw8]; (repeat refine below_set ?_ (Nat.le_of_eq HX.out.1.symm)); exact HX.out.2.2); have HB8 := Aside0.mk (below_step HB.out HB1.out); have B8 := Aside0.mk (blk_below B0.out HB1.out); clear hw8 HX hz0 hy0 hz1 hy1 hz2 hy2 hz3 hy3 hz4 hy4 hz5 hy5 x0 x1 x2 x3 x4 x5 hp0; have X0 := (blk_cell BX8.out 0).trans rfl; have X1 := (blk_cell BX8.out 1).trans rfl; have X2 := (blk_cell BX8.out 2).trans rfl; have X3 := (blk_cell BX8.out 3).trans rfl; have X4 := (blk_cell BX8.out 4).trans rfl; have X5 := (blk_cell BX8.out 5).trans rfl; have p8 := (blk_cell B8.out 0).trans rfl; have q8 := (blk_cell B8.out 1).trans rfl; have r8 := blk_frozen B8.out 0; have s8 := blk_frozen B8.out 1; have y8 := (HB8.out.cell (World.block_lt_of_cell? w _ HY.out)).trans HY.out))
    go_region_held3 (fun w' => w'.cell? ⟨gx, 3, none⟩ = some (.int .i64 x.f3) ∧ w'.cell? ⟨gx, 5, none⟩ = some (.slice A5 x.f5.length c5) ∧ w'.cell? ⟨(ad.add (x.f3.toNat * 6)).block, (ad.add (x.f3.toNat * 6)).off + 2, none⟩ = some (.int .i64 (rd_T32 l x.f3).f2)) (first | go_keep) (first | fail)
    go_wp2
    go_roundg dd
    case measure => omega
    case rel => exact ⟨q + 1, _, _, rfl, by simp only [i64_w]; rw [HW.out], by first | rw [HQ1.out] | (simp only [i64_w]; rw [HQ1.out]), ⟨by have := HQ.out; omega⟩, HTn, ⟨by have h := HSn.out; rwa [Int.natCast_add] ⟩, ⟨blk_drew B8.out⟩, ⟨below_drew1 HB8.out⟩⟩
   have k3b : (x.f0 == 3) = false := beq_eq_false_iff_ne.mpr k3
   obtain ⟨rfl, rfl, rfl, rfl⟩ : 0 = r1 ∧ 0 = r2 ∧ 8 = r3 ∧ (q : Int) = r4 := by have h := HS1.out; rw [if_neg k4, if_neg k3] at h; simpa using h
   clear k3 k4
   go_wp2_with (first
    | ((with_reducible refine gate_dst (N := 13) rfl ?_); refine box_event ?hg (N := 13) ?hd (cs := #[.int .i64 0, .string (⟨#[]⟩ : ByteArray), .int .i64 0, .int .i64 0, .int .i64 0, .slice none 0 0]) (t := 32) ?hr ?_; (case hd => rfl); (case hg => rfl); (case hr => first | (go_simp; done) | (go_simp; rfl)); intro gx hgb W7 hbx hb7; have hz0 := (blk_cell hbx 0).trans rfl; have hy0 := blk_frozen hbx 0; have hz1 := (blk_cell hbx 1).trans rfl; have hy1 := blk_frozen hbx 1; have hz2 := (blk_cell hbx 2).trans rfl; have hy2 := blk_frozen hbx 2; have hz3 := (blk_cell hbx 3).trans rfl; have hy3 := blk_frozen hbx 3; have hz4 := (blk_cell hbx 4).trans rfl; have hy4 := blk_frozen hbx 4; have hz5 := (blk_cell hbx 5).trans rfl; have hy5 := blk_frozen hbx 5; have HX := Aside0.mk (And.intro hgb (And.intro hbx hb7)); clear hbx hb7 hgb)
    | ((with_reducible refine gate_store (t := 32) (p := 13) rfl ?_); refine store_event (t := 32) (p := 13) (v := .tmp 36) (w1 := ((((((W7.setCell ⟨gx, 0, none⟩ (.int .i64 x.f0)).setCell ⟨gx, 1, none⟩ (.string x.f1)).setCell ⟨gx, 2, none⟩ (.int .i64 x.f2)).setCell ⟨gx, 3, none⟩ (.int .i64 x.f3)).setCell ⟨gx, 4, none⟩ (.int .i64 x.f4)).setCell ⟨gx, 5, none⟩ (.slice A5 x.f5.length c5))) ?hg ?ho ?hn ?hr ?_; (case ho => rfl); (case hg => rfl); (case hn => rfl); (case hr => first | (go_simp; done) | (go_simp; rfl)); intro W8 hw8; have BX8 := Aside0.mk (show W8.heap[gx]? = some (.cells #[.int .i64 x.f0, .string x.f1, .int .i64 x.f2, .int .i64 x.f3, .int .i64 x.f4, .slice A5 x.f5.length c5] 32 (0, 0)) from by rw [hw8]; exact boxed6 HX.out.2.1); have HB1 := Aside0.mk (show Below wr.heap.size wr W8 from by rw [hw8]; (repeat refine below_set ?_ (Nat.le_of_eq HX.out.1.symm)); exact HX.out.2.2); have HB8 := Aside0.mk (below_step HB.out HB1.out); have B8 := Aside0.mk (blk_below B0.out HB1.out); clear hw8 HX hz0 hy0 hz1 hy1 hz2 hy2 hz3 hy3 hz4 hy4 hz5 hy5 x0 x1 x2 x3 x4 x5 hp0; have X0 := (blk_cell BX8.out 0).trans rfl; have X1 := (blk_cell BX8.out 1).trans rfl; have X2 := (blk_cell BX8.out 2).trans rfl; have X3 := (blk_cell BX8.out 3).trans rfl; have X4 := (blk_cell BX8.out 4).trans rfl; have X5 := (blk_cell BX8.out 5).trans rfl; have p8 := (blk_cell B8.out 0).trans rfl; have q8 := (blk_cell B8.out 1).trans rfl; have r8 := blk_frozen B8.out 0; have s8 := blk_frozen B8.out 1))
   refine bodyPost_ret (results_list (rs := [.tmp 6, .tmp 7, .cell 8 25]) rfl (by simp) (.tmp (.tmp (.cell g8 25 #[.int .i64 8, .int .i64 (q : Int)] (0, 0) _ rfl (boxed2 B8.out) Try.underlying25 rfl (by kernel_rfl) .nil)))) rfl ?_
   exact ⟨rfl, below_set (below_set HB8.out HG.out) HG.out⟩
end Go.Proofs.Ytpmlcmdojmdmhaa.PR
