/- frame's example, the checksum of the reference, and that one changed byte changes the checksum. -/
import Derived.Test.YteljmmdbgnjflaaHUnpack
import Derived.Test.YteljmmdbgnjflaaPFx14
import Derived.Test.YteljmmdbgnjflaaPFx15
set_option linter.unusedVariables false
set_option linter.unusedSimpArgs false
namespace Go.Proofs.Yteljmmdbgnjflaa.PF
open Go.RowKit Go.Proofs.YteljmmdbgnjflaaW.PrintWords Go.Proofs.YteljmmdbgnjflaaW.PrintLast Go.Proofs.YteljmmdbgnjflaaW.PrintMore Go.Proofs.Yteljmmdbgnjflaa.H

theorem bytes_ev {a b : List Int} (h : a = b) : linkhouseref1_Bytes.f a b = some true := by subst h; simp [linkhouseref1_Bytes.f]
theorem wf_bytes {l : List Int} (h : ∀ x ∈ l, (Lit.int .u8 x).wf = true) : Bytes l := fun x hx => by
  have := h x hx
  simp [Lit.wf, IntKind.min, IntKind.max, IntKind.signed, IntKind.bits] at this
  omega
theorem pack_ev (xs : List Int) (h : xs.length ≤ 100000) : frame_Pack.f xs = some (frames xs, 0, 0) := by
  unfold frame_Pack.f
  rw [if_neg (by omega)]

theorem comp_example : comp [7, 7, 7, 7, 7, 7] = [0, 7, 129, 1, 0] := by decide +kernel
theorem sum_two : sum [2] = 196611 := by
  rw [sum_eq _ (fun x hx => by simp at hx; omega)]
  decide +kernel
theorem example_ev : Ev (fun k => linkhouselaw2_frameExample.f k) true := by
  have hB : Bytes [7, 7, 7, 7, 7, 7] := fun x hx => by simp at hx; omega
  have hu := unpack_frames [7, 7, 7, 7, 7, 7] hB (by simp)
  have hs := sum_ev [2] (by simp)
  rw [sum_two] at hs
  have hf : frames [7, 7, 7, 7, 7, 7] = frame1 [7, 7, 7, 7, 7, 7] := frames_one _ (by simp) (by simp)
  have hl : (frames [7, 7, 7, 7, 7, 7]).length = 13 := by rw [hf, frame1_length, comp_example]; rfl
  have hd : (frames [7, 7, 7, 7, 7, 7]).drop 8 = [0, 7, 129, 1, 0] := by
    rw [hf]
    unfold frame1
    rw [List.drop_append_of_le_length (by simp [le_length]), List.drop_eq_nil_of_le (by simp [le_length]), List.nil_append, comp_example]
  unfold linkhouselaw2_frameExample.f
  rw [pack_ev _ (by simp)]
  simp only [Option.bind_some]
  refine Ev.bind hu ?_
  simp only [if_true]
  refine Ev.bind hs ?_
  simp only [if_true]
  rw [bytes_ev rfl, hl, hd, bytes_ev rfl]
  exact Ev.now _

/-! ### the reference's checksum -/
theorem checksum_l0 (xs : List Int) (hx : Bytes xs) (hl : xs.length ≤ 9223372036854775806) : ∀ d i a b, i + d = xs.length → 0 ≤ a ∧ a < 65521 ∧ 0 ≤ b ∧ b < 65521 →
    Ev (fun k => linkhouseref2_Checksum.l0 k xs a b (i : Int)) (65536 * ((xs.drop i).foldl sumStep (a, b)).2 + ((xs.drop i).foldl sumStep (a, b)).1) := by
  intro d
  induction d with
  | zero =>
    intro i a b h hr
    rw [List.drop_eq_nil_of_le (by omega), List.foldl_nil]
    refine Ev.step (f := fun _ => some (65536 * b + a)) (fun k => ?_) (Ev.now _)
    simp only [linkhouseref2_Checksum.l0]
    rw [if_neg (by omega), w64 (v := 65536 * b) (by omega) (by omega), w64 (by omega) (by omega)]
  | succ d ih =>
    intro i a b h hr
    have hi : i < xs.length := by omega
    have hg : xs.getD i 0 = xs[i] := by simp [hi]
    obtain ⟨h1, h2, h3, h4, h5⟩ := sumStep_range (a, b) (xs.getD i 0) (hx.at_ i) hr
    rw [List.drop_eq_getElem_cons hi, List.foldl_cons, ← hg]
    refine Ev.step (fun k => ?_) (ih (i + 1) (sumStep (a, b) (xs.getD i 0)).1 (sumStep (a, b) (xs.getD i 0)).2 (by omega) ⟨h1, h2, h3, h4⟩)
    simp only [linkhouseref2_Checksum.l0]
    rw [if_pos (by omega), if_pos (by omega), rd_nat, w64 (v := (i : Int) + 1) (by omega) (by omega)]
    rfl
theorem checksum_ev (xs : List Int) (hx : Bytes xs) (hl : xs.length ≤ 9223372036854775806) : Ev (fun k => linkhouseref2_Checksum.f k xs) (sum xs) := by
  have h := checksum_l0 xs hx hl xs.length 0 1 0 (by omega) (by simp)
  rw [sum_eq xs hx]
  exact h

/-! ### one byte changed -/
theorem sumF_congr (xs : List Int) (hx : Bytes xs) : ∀ s t : Int × Int, (0 ≤ s.1 ∧ s.1 < 65521 ∧ 0 ≤ s.2 ∧ s.2 < 65521) → (0 ≤ t.1 ∧ t.1 < 65521 ∧ 0 ≤ t.2 ∧ t.2 < 65521) → s.1 ≠ t.1 → (xs.foldl sumStep s).1 ≠ (xs.foldl sumStep t).1 := by
  induction xs with
  | nil => intro s t _ _ h; exact h
  | cons x xs ih =>
    intro s t hs ht h
    rw [List.foldl_cons, List.foldl_cons]
    have hxx := hx x (by simp)
    obtain ⟨h1, h2, h3, h4, h5, _⟩ := sumStep_range s x hxx hs
    obtain ⟨g1, g2, g3, g4, g5, _⟩ := sumStep_range t x hxx ht
    refine ih (fun y hy => hx y (by simp [hy])) _ _ ⟨h1, h2, h3, h4⟩ ⟨g1, g2, g3, g4⟩ ?_
    rw [h5, g5]
    omega
theorem sum_set (xs : List Int) (hx : Bytes xs) (i : Nat) (hi : i < xs.length) (v : Int) (hv : 0 ≤ v ∧ v < 256) (hne : xs.getD i 0 ≠ v) : sum (xs.set i v) ≠ sum xs := by
  have hB : Bytes (xs.set i v) := fun y hy => by
    rcases List.mem_or_eq_of_mem_set hy with h | h
    · exact hx y h
    · subst h; exact hv
  have hg : xs.getD i 0 = xs[i] := by simp [hi]
  have e1 : xs = xs.take i ++ xs[i] :: xs.drop (i + 1) := by rw [← List.drop_eq_getElem_cons hi, List.take_append_drop]
  have e2 : xs.set i v = xs.take i ++ v :: xs.drop (i + 1) := List.set_eq_take_append_cons_drop .. |>.trans (by rw [if_pos hi])
  have hr0 := sumF_range (xs.take i) (hx.take i) (1, 0) (by simp)
  generalize hs : (xs.take i).foldl sumStep (1, 0) = s at hr0
  have hxi := hx xs[i] (List.getElem_mem hi)
  obtain ⟨h1, h2, h3, h4, h5, _⟩ := sumStep_range s xs[i] hxi hr0
  obtain ⟨g1, g2, g3, g4, g5, _⟩ := sumStep_range s v hv hr0
  have hc := sumF_congr (xs.drop (i + 1)) (hx.drop (i + 1)) (sumStep s v) (sumStep s xs[i]) ⟨g1, g2, g3, g4⟩ ⟨h1, h2, h3, h4⟩ (by
    rw [h5, g5]
    rw [hg] at hne
    omega)
  have f1 : (xs.set i v).foldl sumStep (1, 0) = (xs.drop (i + 1)).foldl sumStep (sumStep s v) := by rw [e2, List.foldl_append, hs, List.foldl_cons]
  have f2 : xs.foldl sumStep (1, 0) = (xs.drop (i + 1)).foldl sumStep (sumStep s xs[i]) := by
    conv => lhs; rw [e1]
    rw [List.foldl_append, hs, List.foldl_cons]
  have r1 := sumF_range (xs.set i v) hB (1, 0) (by simp)
  have r2 := sumF_range xs hx (1, 0) (by simp)
  rw [sum_eq xs hx, sum_eq _ hB]
  rw [← f1, ← f2] at hc
  omega

end Go.Proofs.Yteljmmdbgnjflaa.PF
