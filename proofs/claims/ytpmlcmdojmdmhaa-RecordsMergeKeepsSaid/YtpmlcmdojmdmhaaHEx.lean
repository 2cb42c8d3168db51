/- The small list of types of records' laws: what the functions return for it. -/
import Derived.Test.YtpmlcmdojmdmhaaHMerge
import Derived.Test.YtpmlcmdojmdmhaaHPair
import Derived.Test.YtpmlcmdojmdmhaaPRx15
import Derived.Test.YtpmlcmdojmdmhaaHPth
import Derived.Test.YtpmlcmdojmdmhaaHSame
import Derived.Test.YtpmlcmdojmdmhaaPRxS
set_option linter.unusedVariables false
set_option linter.unusedSimpArgs false
set_option maxRecDepth 100000
namespace Go.Proofs.Ytpmlcmdojmdmhaa.PR
open Go.RowKit Go.Proofs.YtpmlcmdojmdmhaaW.PrintWords Go.Proofs.YtpmlcmdojmdmhaaW.PrintLast Go.Proofs.YtpmlcmdojmdmhaaW.PrintMore
theorem ex_size : records_Size.f 40 l3 2 = some (8, 0, 0) := by kernel_rfl
theorem ex_path : path l3 2 [1] = (1, 4, 0, 0) := by kernel_rfl
theorem wf_l3 : WfL l3 := by
  intro i hi
  have h3 : i < 3 := hi
  have : i = 0 ∨ i = 1 ∨ i = 2 := by omega
  have hI : ∀ x : Int, -9 ≤ x → x ≤ 9 → I64 x := fun x a b => ⟨by omega, by omega⟩
  have hF : ∀ f ∈ f3, f.f0.size ≤ 9223372036854775807 ∧ I64 f.f1 ∧ I64 f.f2 := fun f hf => by
    simp only [f3, List.mem_cons, List.not_mem_nil, or_false] at hf
    rcases hf with rfl | rfl <;> exact ⟨by decide, hI _ (by decide) (by decide), hI _ (by decide) (by decide)⟩
  rcases this with rfl | rfl | rfl
  · exact ⟨hI _ (by decide) (by decide), by decide, hI _ (by decide) (by decide), hI _ (by decide) (by decide), hI _ (by decide) (by decide), by decide, fun f hf => by cases hf⟩
  · exact ⟨hI _ (by decide) (by decide), by decide, hI _ (by decide) (by decide), hI _ (by decide) (by decide), hI _ (by decide) (by decide), by decide, fun f hf => by cases hf⟩
  · exact ⟨hI _ (by decide) (by decide), by decide, hI _ (by decide) (by decide), hI _ (by decide) (by decide), hI _ (by decide) (by decide), by decide, hF⟩
theorem ex_same : SameR l3 1 l3 1 true 0 0 := .inr (.inr ⟨by kernel_rfl, by kernel_rfl, ⟨fun _ => Bis.refl _ _, fun _ => rfl⟩, rfl, rfl⟩)
theorem ex_merge : records_Merge.f 40 l3 l3 = some (l3, [0, 1, 2], 0, 0) := by kernel_rfl
theorem ex_ints : linkhouseref1_Ints.f 40 [0, 1, 2] [0, 1, 2] = some true := by kernel_rfl

/-- What is known between the calls of the example: the errors' boxes, the lists, the numbers. -/
structure Ex (w W : World) (bs : List Nat) (ls : List (Option Addr)) (ns : List (Option Addr × List Int)) : Prop where
  bel : Below w.heap.size w W
  box : ∀ g ∈ bs, W.heap[g]? = some (.cells #[.int .i64 0, .int .i64 0] 25 (0, 0))
  lst : ∀ A ∈ ls, Kd.C k32 W A l3.length l3
  num : ∀ p ∈ ns, Kd.C (Kd.int .i64) W p.1 p.2.length p.2
section
variable {w W W' W7 W8 : World} {bs : List Nat} {ls : List (Option Addr)} {ns : List (Option Addr × List Int)}
theorem Ex.start (w : World) : Ex w w [] [] [] := ⟨Below.refl _ _, fun g h => by simp at h, fun g h => by simp at h, fun g h => by simp at h⟩
theorem Ex.step (h : Ex w W bs ls ns) (hb : Below W.heap.size W W') : Ex w W' bs ls ns := ⟨below_step h.bel hb, fun g hg => blk_below (h.box g hg) hb, fun A hA => Kd.C_below (h.lst A hA) hb, fun A hA => Kd.C_below (h.num A hA) hb⟩
theorem Ex.list (h : Ex w W bs ls ns) (hb : Below W.heap.size W W') {A : Option Addr} (hC : Kd.C k32 W' A l3.length l3) : Ex w W' bs (A :: ls) ns :=
  ⟨below_step h.bel hb, fun g hg => blk_below (h.box g hg) hb, fun B hB => by
    rcases List.mem_cons.1 hB with rfl | h1
    · exact hC
    · exact Kd.C_below (h.lst B h1) hb, fun A hA => Kd.C_below (h.num A hA) hb⟩
theorem Ex.nums (h : Ex w W bs ls ns) (hb : Below W.heap.size W W') {A : Option Addr} {l : List Int} (hC : Kd.C (Kd.int .i64) W' A l.length l) : Ex w W' bs ls ((A, l) :: ns) :=
  ⟨below_step h.bel hb, fun g hg => blk_below (h.box g hg) hb, fun A hA => Kd.C_below (h.lst A hA) hb, fun B hB => by
    rcases List.mem_cons.1 hB with rfl | h1
    · exact hC
    · exact Kd.C_below (h.num B h1) hb⟩
theorem Ex.boxed (h : Ex w W bs ls ns) {g : Nat} (hg : g = W.heap.size) (hbx : W7.heap[g]? = some (.cells #[.int .i64 0, .int .i64 0] 25 (0, 0))) (hb : Below W.heap.size W W7) (hw : W8 = ((W7.setCell ⟨g, 0, none⟩ (.int .i64 0)).setCell ⟨g, 1, none⟩ (.int .i64 0))) : Ex w W8 (g :: bs) ls ns := by
  have hs : Below W.heap.size W W8 := by rw [hw]; exact below_set (below_set hb (by omega)) (by omega)
  have h2 := h.step hs
  refine ⟨h2.bel, fun k hk => ?_, h2.lst, h2.num⟩
  rcases List.mem_cons.1 hk with rfl | h1
  · rw [hw]; exact boxed2 hbx
  · exact h2.box k h1
end
theorem C_one (W : World) (x : Int) : Kd.C (Kd.int .i64) (W.alloc (.cells #[.int .i64 x] 3)) (some ⟨W.heap.size, 0, none⟩) [x].length [x] := by
  have h : Kd.R (Kd.int .i64) 3 (W.alloc (.cells #[.int .i64 x] 3)) W.heap.size (fun _ => True) (.slice (some ⟨W.heap.size, 0, none⟩) 1 1) [x] :=
    Kd.R_of_own ⟨rfl, .inr ⟨W.heap.size, 1, _, rfl, Nat.le_refl _, heap_alloc_new W _, Nat.le_refl _, by decide, rfl, rfl⟩⟩ (fun _ _ => trivial)
  exact (Kd.R_reads' h).2.2
theorem C_three (W : World) (x y z : Int) : Kd.C (Kd.int .i64) (W.alloc (.cells #[.int .i64 x, .int .i64 y, .int .i64 z] 3)) (some ⟨W.heap.size, 0, none⟩) [x, y, z].length [x, y, z] := by
  have h : Kd.R (Kd.int .i64) 3 (W.alloc (.cells #[.int .i64 x, .int .i64 y, .int .i64 z] 3)) W.heap.size (fun _ => True) (.slice (some ⟨W.heap.size, 0, none⟩) 3 3) [x, y, z] :=
    Kd.R_of_own ⟨rfl, .inr ⟨W.heap.size, 3, _, rfl, Nat.le_refl _, heap_alloc_new W _, Nat.le_refl _, by decide, rfl, rfl⟩⟩ (fun _ _ => trivial)
  exact (Kd.R_reads' h).2.2
/-- What is known between the calls of a law: the errors' boxes. -/
structure Lx (w W : World) (bs : List (Nat × Int × Int)) : Prop where
  bel : Below w.heap.size w W
  box : ∀ p ∈ bs, W.heap[p.1]? = some (.cells #[.int .i64 p.2.1, .int .i64 p.2.2] 25 (0, 0))
section
variable {w W W' W7 W8 : World} {bs : List (Nat × Int × Int)}
theorem Lx.start (w : World) : Lx w w [] := ⟨Below.refl _ _, fun g h => by simp at h⟩
theorem Lx.step (h : Lx w W bs) (hb : Below W.heap.size W W') : Lx w W' bs := ⟨below_step h.bel hb, fun g hg => blk_below (h.box g hg) hb⟩
theorem Lx.boxed (h : Lx w W bs) {g : Nat} {a b : Int} (hg : g = W.heap.size) (hbx : W7.heap[g]? = some (.cells #[.int .i64 0, .int .i64 0] 25 (0, 0))) (hb : Below W.heap.size W W7) (hw : W8 = ((W7.setCell ⟨g, 0, none⟩ (.int .i64 a)).setCell ⟨g, 1, none⟩ (.int .i64 b))) : Lx w W8 ((g, a, b) :: bs) := by
  have hs : Below W.heap.size W W8 := by rw [hw]; exact below_set (below_set hb (by omega)) (by omega)
  have h2 := h.step hs
  refine ⟨h2.bel, fun k hk => ?_⟩
  rcases List.mem_cons.1 hk with rfl | h1
  · rw [hw]; exact boxed2 hbx
  · exact h2.box k h1
end
set_option maxHeartbeats 1000000 in
theorem ex_calls (w : World) : Calls Try.prog 10 #[] w fun e w' => e = .returned (.bool true) ∧ Below w.heap.size w w' := by
  have HE := Aside0.mk (Ex.start w)
  have d1 : decide ((l3.length : Int) = 3) = true := by decide
  have d2 : ((l3.length : Int) == 3) = true := by decide
  go_enter Try.func10, Try.ntmps10
  go_wp2_with (first
    | (go_at_call 25; refine (pair_calls _).mono ?_; rintro e W1 ⟨v, rfl, hr, hb⟩; obtain ⟨A, c, rfl, hl, hC⟩ := Kd.R_reads hr; have HC := Aside0.mk hl; have n_ := Aside0.mk (HE.out.list hb hC); clear HE hb hr hC hl; have HE := n_; clear n_)
    | (go_at_call 13; refine (records_Size.calls 40 _ _ l3 2 8 0 0 _ (HE.out.lst _ (by simp)) (Aside0.out (by assumption)) ex_size).mono ?_; rintro e W2 ⟨rfl, hb⟩; have n_ := Aside0.mk (HE.out.step hb); clear HE hb; have HE := n_; clear n_)
    | ((with_reducible refine gate_dst (N := 2) rfl ?_); refine box_event ?hg (N := 2) ?hd (cs := #[.int .i64 0, .int .i64 0]) (t := 25) ?hr ?_; (case hd => rfl); (case hg => rfl); (case hr => first | (go_simp; done) | (go_simp; rfl)); intro g2 hg W7 hbx hb7; have hz0 := (blk_cell hbx 0).trans rfl; have hz1 := (blk_cell hbx 1).trans rfl; have hy0 := blk_frozen hbx 0; have hy1 := blk_frozen hbx 1; have HX := Aside0.mk (And.intro hg (And.intro hbx hb7)); clear hbx hb7 hg)
    | ((with_reducible refine gate_store (t := 25) (p := 2) rfl ?_); refine store_event (t := 25) (p := 2) (v := .tmp 15) (w1 := ((W7.setCell ⟨g2, 0, none⟩ (.int .i64 0)).setCell ⟨g2, 1, none⟩ (.int .i64 0))) ?hg ?ho ?hn ?hr ?_; (case ho => rfl); (case hg => rfl); (case hn => rfl); (case hr => first | (go_simp; done) | (go_simp; rfl)); intro W8 hw8; have n_ := Aside0.mk (HE.out.boxed HX.out.1 HX.out.2.1 HX.out.2.2 hw8); clear HE HX hw8 hz0 hz1 hy0 hy1; have HE := n_; clear n_)
    | (go_at_call 15; refine (path_calls _ _ _ l3 (Kd.C_below (HE.out.lst _ (by simp)) (below_alloc (Below.refl _ _) _)) (Aside0.out (by assumption)) wf_l3 2 _ _ [1] (C_one _ 1) (Nat.le_refl _) 1 4 0 0 ex_path).mono ?_; rintro e W2 ⟨rfl, hb⟩; have n_ := Aside0.mk (HE.out.step (below_then (below_alloc (Below.refl _ _) _) (by simp) hb)); clear HE hb; have HE := n_; clear n_)
    | ((with_reducible refine gate_dst (N := 5) rfl ?_); refine box_event ?hg (N := 5) ?hd (cs := #[.int .i64 0, .int .i64 0]) (t := 25) ?hr ?_; (case hd => rfl); (case hg => rfl); (case hr => first | (go_simp; done) | (go_simp; rfl)); intro g5 hg W7 hbx hb7; have hz0 := (blk_cell hbx 0).trans rfl; have hz1 := (blk_cell hbx 1).trans rfl; have hy0 := blk_frozen hbx 0; have hy1 := blk_frozen hbx 1; have HX := Aside0.mk (And.intro hg (And.intro hbx hb7)); clear hbx hb7 hg)
    | ((with_reducible refine gate_store (t := 25) (p := 5) rfl ?_); refine store_event (t := 25) (p := 5) (v := .tmp 22) (w1 := ((W7.setCell ⟨g5, 0, none⟩ (.int .i64 0)).setCell ⟨g5, 1, none⟩ (.int .i64 0))) ?hg ?ho ?hn ?hr ?_; (case ho => rfl); (case hg => rfl); (case hn => rfl); (case hr => first | (go_simp; done) | (go_simp; rfl)); intro W8 hw8; have n_ := Aside0.mk (HE.out.boxed HX.out.1 HX.out.2.1 HX.out.2.2 hw8); clear HE HX hw8 hz0 hz1 hy0 hy1; have HE := n_; clear n_)
    | (go_at_call 18; refine (same_calls _ _ _ l3 (HE.out.lst _ (by simp)) (Aside0.out (by assumption)) wf_l3 1 _ _ l3 (HE.out.lst _ (by simp)) (Aside0.out (by assumption)) wf_l3 1 true 0 0 ex_same).mono ?_; rintro e W2 ⟨rfl, hb⟩; have n_ := Aside0.mk (HE.out.step hb); clear HE hb; have HE := n_; clear n_)
    | ((with_reducible refine gate_dst (N := 7) rfl ?_); refine box_event ?hg (N := 7) ?hd (cs := #[.int .i64 0, .int .i64 0]) (t := 25) ?hr ?_; (case hd => rfl); (case hg => rfl); (case hr => first | (go_simp; done) | (go_simp; rfl)); intro g7 hg W7 hbx hb7; have hz0 := (blk_cell hbx 0).trans rfl; have hz1 := (blk_cell hbx 1).trans rfl; have hy0 := blk_frozen hbx 0; have hy1 := blk_frozen hbx 1; have HX := Aside0.mk (And.intro hg (And.intro hbx hb7)); clear hbx hb7 hg)
    | ((with_reducible refine gate_store (t := 25) (p := 7) rfl ?_); refine store_event (t := 25) (p := 7) (v := .tmp 28) (w1 := ((W7.setCell ⟨g7, 0, none⟩ (.int .i64 0)).setCell ⟨g7, 1, none⟩ (.int .i64 0))) ?hg ?ho ?hn ?hr ?_; (case ho => rfl); (case hg => rfl); (case hn => rfl); (case hr => first | (go_simp; done) | (go_simp; rfl)); intro W8 hw8; have n_ := Aside0.mk (HE.out.boxed HX.out.1 HX.out.2.1 HX.out.2.2 hw8); clear HE HX hw8 hz0 hz1 hy0 hy1; have HE := n_; clear n_)
    | (go_at_call 21; refine (records_Merge.calls 40 _ _ l3 _ _ l3 l3 [0, 1, 2] 0 0 _ (HE.out.lst _ (by simp)) (Aside0.out (by assumption)) (HE.out.lst _ (by simp)) (Aside0.out (by assumption)) ex_merge).mono ?_; rintro e W2 ⟨v0, v1, rfl, hr0, hr1, hb⟩; obtain ⟨A8, c8, rfl, _⟩ := Kd.R_reads hr0; obtain ⟨A9, c9, rfl, hl9, hC9⟩ := Kd.R_reads hr1; have HL9 := Aside0.mk hl9; have n_ := Aside0.mk (HE.out.nums (A := A9) (l := [0, 1, 2]) hb hC9); clear HE hb hr0 hr1 hl9 hC9; have HE := n_; clear n_)
    | ((with_reducible refine gate_dst (N := 10) rfl ?_); refine box_event ?hg (N := 10) ?hd (cs := #[.int .i64 0, .int .i64 0]) (t := 25) ?hr ?_; (case hd => rfl); (case hg => rfl); (case hr => first | (go_simp; done) | (go_simp; rfl)); intro g10 hg W7 hbx hb7; have hz0 := (blk_cell hbx 0).trans rfl; have hz1 := (blk_cell hbx 1).trans rfl; have hy0 := blk_frozen hbx 0; have hy1 := blk_frozen hbx 1; have HX := Aside0.mk (And.intro hg (And.intro hbx hb7)); clear hbx hb7 hg)
    | ((with_reducible refine gate_store (t := 25) (p := 10) rfl ?_); refine store_event (t := 25) (p := 10) (v := .tmp 35) (w1 := ((W7.setCell ⟨g10, 0, none⟩ (.int .i64 0)).setCell ⟨g10, 1, none⟩ (.int .i64 0))) ?hg ?ho ?hn ?hr ?_; (case ho => rfl); (case hg => rfl); (case hn => rfl); (case hr => first | (go_simp; done) | (go_simp; rfl)); intro W8 hw8; have n_ := Aside0.mk (HE.out.boxed HX.out.1 HX.out.2.1 HX.out.2.2 hw8); clear HE HX hw8 hz0 hz1 hy0 hy1; have HE := n_; clear n_; have q2 := (blk_cell (HE.out.box g2 (by simp)) 0).trans rfl; have q5 := (blk_cell (HE.out.box g5 (by simp)) 0).trans rfl; have q7 := (blk_cell (HE.out.box g7 (by simp)) 0).trans rfl; have q10 := (blk_cell (HE.out.box g10 (by simp)) 0).trans rfl)
    | (go_at_call 24; refine (linkhouseref1_Ints.calls 40 _ _ [0, 1, 2] _ _ [0, 1, 2] true _ (Kd.C_below (HE.out.num (A9, [0, 1, 2]) (by simp)) (below_alloc (Below.refl _ _) _)) HL9.out (C_three _ 0 1 2) (Nat.le_refl _) ex_ints).mono ?_; rintro e W2 ⟨rfl, hb⟩; have n_ := Aside0.mk (HE.out.step (below_then (below_alloc (Below.refl _ _) _) (by simp) hb.below)); clear HE hb; have HE := n_; clear n_))
  go_ret
  exact ⟨rfl, HE.out.bel⟩
end Go.Proofs.Ytpmlcmdojmdmhaa.PR
