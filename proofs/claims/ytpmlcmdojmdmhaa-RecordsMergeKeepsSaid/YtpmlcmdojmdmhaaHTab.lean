/- The table of records.pairs in memory: a box that holds a row of rows of bools, all of the call's own, each row by itself. -/
import Derived.Test.YtpmlcmdojmdmhaaHRep
set_option linter.unusedVariables false
set_option linter.unusedSimpArgs false
set_option maxRecDepth 100000
namespace Go.Proofs.Ytpmlcmdojmdmhaa.PR
open Go.RowKit Go.Proofs.YtpmlcmdojmdmhaaW.PrintWords Go.Proofs.YtpmlcmdojmdmhaaW.PrintLast Go.Proofs.YtpmlcmdojmdmhaaW.PrintMore
structure TabAt (w W : World) (g g0 c : Nat) (T : List (List Bool)) : Prop where
  box : W.heap[g]? = some (.cells #[.slice (some ⟨g0, 0, none⟩) T.length c] 57 (0, 0))
  row : Kd.S (Kd.slice 4 Kd.bool) 56 W w.heap.size (fun k => k ≠ g) (.slice (some ⟨g0, 0, none⟩) T.length c) T
  bel : Below w.heap.size w W
  lo : w.heap.size ≤ g
section
variable {w W W' : World} {g g0 c : Nat} {T : List (List Bool)}
theorem TabAt.step (h : TabAt w W g g0 c T) (hb : Below W.heap.size W W') : TabAt w W' g g0 c T := ⟨blk_below h.box hb, Kd.S_below h.row hb, below_step h.bel hb, h.lo⟩
theorem TabAt.drewN (h : TabAt w W g g0 c T) (n : Nat) : TabAt w (W.drewN n) g g0 c T := h.step (pw_below_drewN (Below.refl _ _) n)
theorem TabAt.cell (h : TabAt w W g g0 c T) : W.cell? ⟨g, 0, none⟩ = some (.slice (some ⟨g0, 0, none⟩) T.length c) := (blk_cell h.box 0).trans rfl
theorem TabAt.reads (h : TabAt w W g g0 c T) : T.length ≤ c ∧ Kd.C (Kd.slice 4 Kd.bool) W (some ⟨g0, 0, none⟩) T.length T := (Kd.S_reads' h.row).2
theorem TabAt.g0_lt (h : TabAt w W g g0 c T) : g0 < W.heap.size := Kd.S_lt h.row g0 (by simp [Value.ownBlock])
theorem TabAt.g0_ne (h : TabAt w W g g0 c T) : g ≠ g0 := fun e => Kd.S_ne h.row h.box (by decide) (by simp [Value.ownBlock, e])
theorem TabAt.frozen0 (h : TabAt w W g g0 c T) (j : Nat) : W.frozen? ⟨g0, j, none⟩ = false := by
  obtain ⟨cells, hb⟩ := Kd.S_typed h.row g0 (by simp [Value.ownBlock])
  exact blk_frozen hb j
theorem TabAt.cell0 (h : TabAt w W g g0 c T) (i : Nat) (hi : i < T.length) : ∃ u, W.cell? ⟨g0, i, none⟩ = some u := by
  obtain ⟨oki, cc, hcl, hM, hcc, hoki, hback⟩ := Kd.S_borrow h.row ([] : List Bool) (i : Int) (by omega) (by omega)
  obtain ⟨v, rfl, hR⟩ := hM
  have hc0 := hcc 0 _ rfl
  rw [show (i : Int).toNat * (Kd.slice 4 Kd.bool).sz + 0 = i from by show (i : Int).toNat * 1 + 0 = i; omega, add_plain] at hc0
  exact ⟨v, hc0⟩
/-- Row i, and cell q of it, which may be cleared. -/
theorem TabAt.at (h : TabAt w W g g0 c T) (i q : Nat) (hi : i < T.length) (hq : q < (T.getD i []).length) :
    ∃ gi ci, W.cell? ⟨g0, i, none⟩ = some (.slice (some ⟨gi, 0, none⟩) (T.getD i []).length ci) ∧ W.cell? ⟨gi, q, none⟩ = some (.bool ((T.getD i []).getD q false)) ∧ W.frozen? ⟨gi, q, none⟩ = false ∧ (∃ cells, W.heap[gi]? = some (.cells cells 4 (0, 0))) ∧
      TabAt w (W.setCell ⟨gi, q, none⟩ (.bool false)) g g0 c (T.set i ((T.getD i []).set q false)) := by
  obtain ⟨oki, cc, hcl, hM, hcc, hoki, hback⟩ := Kd.S_borrow h.row ([] : List Bool) (i : Int) (by omega) (by omega)
  rw [Int.toNat_natCast] at hM hcc hback
  generalize T.getD i [] = row at hM hq ⊢
  obtain ⟨v, rfl, hR⟩ := hM
  obtain ⟨gi, ci, rfl, hgi, hlt, cells, hcells⟩ := Kd.R_form hR (by omega)
  have hc0 := hcc 0 _ rfl
  rw [show i * (Kd.slice 4 Kd.bool).sz + 0 = i from by show i * 1 + 0 = i; omega, add_plain] at hc0
  obtain ⟨ad, eA, hcq⟩ := Kd.at_bool (Kd.R_reads' hR).2.2 (q : Int) (by omega) (by omega)
  cases eA
  rw [add_plain, Int.toNat_natCast] at hcq
  have hcq' : W.cell? ⟨gi, q, none⟩ = some (.bool (row.getD q false)) := by rw [hcq]; simp [rdOf]
  obtain ⟨h1, h2⟩ := Kd.R_seg hR (q : Int) (by omega) (by omega) (c := [.bool (row.getD q false)]) (seg := [.bool false]) (j := 0) (x' := false) (okp := fun _ => False) rfl
      (fun j u hu => by
        cases j with
        | zero =>
          simp only [List.getElem?_cons_zero] at hu
          cases hu
          rw [show (q : Int).toNat * Kd.bool.sz + 0 = q from by show (q : Int).toNat * 1 + 0 = q; omega]
          exact hcq'
        | succ j => simp at hu) (Nat.le_refl 1) rfl (fun _ hk => hk.elim)
  rw [show (q : Int).toNat * Kd.bool.sz + 0 = q from by show (q : Int).toNat * 1 + 0 = q; omega] at h1 h2
  rw [Int.toNat_natCast] at h1
  have hoi := hR.1 gi (by simp [Value.ownBlock])
  refine ⟨gi, ci, hc0, hcq', blk_frozen hcells q, ⟨_, hcells⟩, ?_, ?_, ?_, h.lo⟩
  · rw [List.length_set]
    exact blk_grown h.box h2 (fun e => (hoki gi hoi).1 (by injection e with e; exact e.symm))
  · rw [List.length_set]
    exact hback h2 (fun k hk => by injection hk with hk; subst hk; exact hoi) ⟨_, rfl, h1⟩
  · exact pw_below_grown h.bel (some gi) h.bel.size h2 (fun k hk => by injection hk with hk; subst hk; exact hgi)
/-- A row that a call has made is put at i. -/
theorem TabAt.put (h : TabAt w W g g0 c T) (i : Nat) (hi : i < T.length) {v : Value} {row : List Bool} (hv : Kd.bool.R 4 W' W.heap.size (fun _ => True) v row) (hb : Below W.heap.size W W') :
    TabAt w (W'.setCell ⟨g0, i, none⟩ v) g g0 c (T.set i row) := by
  have h0 : Kd.S (Kd.slice 4 Kd.bool) 56 W' w.heap.size (fun k => k ≠ g ∧ some k ≠ v.ownBlock) _ T := Kd.S_elder' h.row (Kd.R_base hv) hb
  obtain ⟨oki, cc, hcl, hM, hcc, hoki, hH⟩ := Kd.S_lend h0 ([] : List Bool) (i : Int) (by omega) (by omega)
  have hcl1 : cc.length = 1 := hcl
  have hgl := blk_lt h.box
  have hg0 := h.g0_lt
  have hS := Kd.S_seg (okg := fun k => some k = v.ownBlock) (ok := fun k => k ≠ g) (okp := fun k => some k = v.ownBlock) (j := 0) (seg := [v]) (x' := row) hH (by omega) (by omega) (Nat.le_refl 1)
    ⟨v, by simp only [List.take_zero, List.nil_append]; rw [List.drop_eq_nil_of_le (by rw [hcl1]; simp)]; rfl, Kd.R_lower (Kd.R_tight rfl hv) h.bel.size⟩ (fun k hk => .inr hk)
    (fun k hk => by have := Kd.R_base hv k hk.symm; omega)
  rw [show (i : Int).toNat * (Kd.slice 4 Kd.bool).sz + 0 = i from by show (i : Int).toNat * 1 + 0 = i; omega, Int.toNat_natCast] at hS
  refine ⟨?_, ?_, ?_, h.lo⟩
  · rw [List.length_set]
    exact blk_grown (blk_below h.box hb) hS.2 (fun e => h.g0_ne (by injection e))
  · rw [List.length_set]
    exact hS.1
  · exact pw_below_grown (below_step h.bel hb) (some g0) (below_step h.bel hb).size hS.2 (fun k hk => by injection hk with hk; subst hk; exact Kd.S_base h.row g0 (by simp [Value.ownBlock]))
end
theorem own_formS {W : World} {base : Nat} {ok : Nat → Prop} {v : Value} {T : List (List Bool)} {m : Nat} (h : Kd.S (Kd.slice 4 Kd.bool) 56 W base ok v T) (hb : ∃ b, v.ownBlock = some b ∧ m ≤ b) : ∃ g cap, v = .slice (some ⟨g, 0, none⟩) T.length cap := by
  obtain ⟨A, c, rfl⟩ := Kd.S_slice h
  cases A with
  | none => obtain ⟨b, hb, _⟩ := hb; simp [Value.ownBlock] at hb
  | some ad =>
    obtain ⟨g, rfl⟩ := Kd.R_head (Kd.S_R h)
    exact ⟨g, c, rfl⟩
/-- The table just made, and put into its box. -/
theorem TabAt.new {w W3 W4 : World} {g g0 c : Nat} {T : List (List Bool)} (h : Kd.S (Kd.slice 4 Kd.bool) 56 W3 w.heap.size (fun _ => True) (.slice (some ⟨g0, 0, none⟩) T.length c) T) (hB : Below w.heap.size w W3) (hg : g = W3.heap.size)
    (hb : W4.heap[g]? = some (.cells #[.slice none 0 0] 57 (0, 0))) (hb4 : Below W3.heap.size W3 W4) : TabAt w (W4.setCell ⟨g, 0, none⟩ (.slice (some ⟨g0, 0, none⟩) T.length c)) g g0 c T := by
  have h4 := Kd.S_types (Kd.S_below h hb4) hb (by decide)
  exact ⟨blk_put hb 0 _ rfl, Kd.S_mono (Kd.S_set (Kd.S_mono h4 (fun k hk => hk.2)) hb (by decide) 0 _) (fun k hk => hk), below_set (below_step hB hb4) (by rw [hg]; exact hB.size), by rw [hg]; exact hB.size⟩
end Go.Proofs.Ytpmlcmdojmdmhaa.PR
