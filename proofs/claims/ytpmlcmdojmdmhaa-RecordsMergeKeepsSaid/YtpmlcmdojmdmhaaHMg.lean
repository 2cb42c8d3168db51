/- records.Merge: what it computes, as a function on lists, and its variables in memory. -/
import Derived.Test.YtpmlcmdojmdmhaaHPairs
import Derived.Test.YtpmlcmdojmdmhaaPRx13
import Derived.Test.YtpmlcmdojmdmhaaPRx25
set_option linter.unusedVariables false
set_option linter.unusedSimpArgs false
set_option maxRecDepth 100000
namespace Go.Proofs.Ytpmlcmdojmdmhaa.PR
open Go.RowKit Go.Proofs.YtpmlcmdojmdmhaaW.PrintWords Go.Proofs.YtpmlcmdojmdmhaaW.PrintLast Go.Proofs.YtpmlcmdojmdmhaaW.PrintMore
/-- The first i (d are left) with an entry in column k, or -1. -/
def mg_i (T : List (List Bool)) (k : Nat) : Nat → Nat → Int
  | 0, _ => -1
  | d + 1, i => if tabAt T i k = true then (i : Int) else mg_i T k d (i + 1)
/-- The number of the first j (d are left) with an entry in column k, unless there is a number already. -/
def mg_j (O : List (List Bool)) (N : List Int) (k : Nat) : Nat → Nat → Int → Int
  | 0, _, c => c
  | d + 1, j, c => if c < 0 then (if tabAt O j k = true then mg_j O N k d (j + 1) (rd N j) else mg_j O N k d (j + 1) c) else c
def mg_c (na : Nat) (T O : List (List Bool)) (k : Nat) (N : List Int) : Int := mg_j O N k k 0 (mg_i T k na 0)
/-- The numbers and what is added, from k on (d are left). -/
def mg_k (na : Nat) (T O : List (List Bool)) : Nat → Nat → List Int → List Int → List Int × List Int
  | 0, _, N, Ad => (N, Ad)
  | d + 1, k, N, Ad => if mg_c na T O k N < 0 then mg_k na T O d (k + 1) (N.set k (na + Ad.length)) (Ad ++ [(k : Int)]) else mg_k na T O d (k + 1) (N.set k (mg_c na T O k N)) Ad
/-- A type with other numbers. -/
def renF (N : List Int) (f : S55) : S55 := ⟨f.f0, rd N f.f1, f.f2⟩
def renE (N : List Int) (t : S32) : Int := if t.f0 = 2 ∨ t.f0 = 3 then rd N t.f3 else t.f3
def ren (N : List Int) (t : S32) : S32 := ⟨t.f0, t.f1, t.f2, renE N t, t.f4, t.f5.map (renF N)⟩
def InN (m : Nat) (x : Int) : Prop := 0 ≤ x ∧ x < (m : Int)
instance (m x) : Decidable (InN m x) := by unfold InN; infer_instance
/-- All numbers in a type are of the list. -/
def RefsIn (m : Nat) (t : S32) : Prop := (t.f0 = 2 ∨ t.f0 = 3 → InN m t.f3) ∧ ∀ f ∈ t.f5, InN m f.f1
instance (m t) : Decidable (RefsIn m t) := by unfold RefsIn; infer_instance
def SmallL (l : List S32) : Prop := l.length ≤ 30 ∧ ∀ t ∈ l, t.f5.length ≤ 8
instance (l) : Decidable (SmallL l) := by unfold SmallL; infer_instance
def records_Merge.f (k : Nat) (a b : List S32) : Option (List S32 × List Int × Int × Int) :=
  (records_Validate.f k a).bind fun v => if v = (0, 0) then (records_Validate.f k b).bind fun u => if u = (0, 0) then
    (if SmallL a ∧ SmallL b ∧ ∀ t ∈ b, RefsIn b.length t then
      (records_pairs.f k a b).bind fun T => (records_pairs.f k b b).bind fun O =>
        let s := mg_k a.length T O b.length 0 (List.replicate b.length 0) []
        if a.length + s.2.length > 30 then some ([], [], 10, -4) else some (a ++ s.2.map fun q => ren s.1 (rd_T32 b q), s.1, 0, 0)
     else none) else some ([], [], u.1, -3) else some ([], [], v.1, v.2)

/-! ### the shapes -/
theorem pr_row_shape (k : Nat) (a b : List S32) (i m : Nat) : ∀ d q T ch s, pr_row k a b i d q T ch = some s → i < T.length → Wide m T → s.1.length = T.length ∧ Wide m s.1
  | 0, q, T, ch, s, h, _, hw => by simp [pr_row] at h; subst h; exact ⟨rfl, hw⟩
  | d + 1, q, T, ch, s, h, hi, hw => by
    unfold pr_row at h
    split at h
    · obtain ⟨b1, _, h2⟩ := Option.bind_eq_some_iff.1 h
      split at h2
      · exact pr_row_shape k a b i m d _ _ _ _ h2 hi hw
      · have h3 := pr_row_shape k a b i m d _ _ _ _ h2 (by rw [tabClear, List.length_set]; exact hi) (hw.clear hi q)
        rw [show (tabClear T i q).length = T.length from List.length_set] at h3
        exact h3
    · exact pr_row_shape k a b i m d _ _ _ _ h hi hw
theorem pr_all_shape (k : Nat) (a b : List S32) (m : Nat) : ∀ d i T ch s, pr_all k a b d i T ch = some s → i + d = T.length → Wide m T → s.1.length = T.length ∧ Wide m s.1
  | 0, i, T, ch, s, h, _, hw => by simp [pr_all] at h; subst h; exact ⟨rfl, hw⟩
  | d + 1, i, T, ch, s, h, hi, hw => by
    unfold pr_all at h
    obtain ⟨s1, h1, h2⟩ := Option.bind_eq_some_iff.1 h
    obtain ⟨e1, w1⟩ := pr_row_shape k a b i m _ _ _ _ _ h1 (by omega) hw
    obtain ⟨e2, w2⟩ := pr_all_shape k a b m d _ _ _ _ h2 (by omega) w1
    exact ⟨e2.trans e1, w2⟩
theorem pr_loop_shape (a b : List S32) (m : Nat) : ∀ k T r, pr_loop a b k T = some r → T.length = a.length → Wide m T → r.length = a.length ∧ Wide m r
  | 0, T, r, h, _, _ => by simp [pr_loop] at h
  | k + 1, T, r, h, hl, hw => by
    rw [pr_loop] at h
    obtain ⟨s, h1, h2⟩ := Option.bind_eq_some_iff.1 h
    obtain ⟨e1, w1⟩ := pr_all_shape k a b m _ _ _ _ _ h1 (by omega) hw
    split at h2
    · exact pr_loop_shape a b m k _ _ h2 (e1.trans hl) w1
    · cases h2; exact ⟨e1.trans hl, w1⟩
theorem pairs_shape {k : Nat} {a b : List S32} {r : List (List Bool)} (h : records_pairs.f k a b = some r) : r.length = a.length ∧ Wide b.length r := by
  unfold records_pairs.f at h
  split at h
  · exact pr_loop_shape a b _ k _ _ h (by simp) (fun row hr => by rw [List.eq_of_mem_replicate hr]; simp)
  · cases h

/-! ### memory -/
structure Mg (w W : World) (g6 gn cn : Nat) (A9 A10 : Option Addr) (c9 c10 : Nat) (v12 : Value) (T O : List (List Bool)) (N Ad : List Int) : Prop where
  bx : W.heap[g6]? = some (.cells #[.int .i64 0, .int .i64 0] 25 (0, 0))
  t : Kd.S (Kd.slice 4 Kd.bool) 56 W w.heap.size (fun _ => True) (.slice A9 T.length c9) T
  o : Kd.S (Kd.slice 4 Kd.bool) 56 W w.heap.size (fun _ => True) (.slice A10 O.length c10) O
  n : Kd.R (Kd.int .i64) 3 W w.heap.size (fun k => k = gn) (.slice (some ⟨gn, 0, none⟩) N.length cn) N
  a : Kd.R (Kd.int .i64) 3 W w.heap.size (fun k => k ≠ gn) v12 Ad
  bel : Below w.heap.size w W
  lo : w.heap.size ≤ g6
section
variable {w W W' : World} {g6 gn cn : Nat} {A9 A10 : Option Addr} {c9 c10 : Nat} {v12 : Value} {T O : List (List Bool)} {N Ad : List Int}
theorem Mg.step (h : Mg w W g6 gn cn A9 A10 c9 c10 v12 T O N Ad) (hb : Below W.heap.size W W') : Mg w W' g6 gn cn A9 A10 c9 c10 v12 T O N Ad :=
  ⟨blk_below h.bx hb, Kd.S_below h.t hb, Kd.S_below h.o hb, Kd.R_below h.n hb, Kd.R_below h.a hb, below_step h.bel hb, h.lo⟩
theorem Mg.ntyped (h : Mg w W g6 gn cn A9 A10 c9 c10 v12 T O N Ad) : ∃ cells, W.heap[gn]? = some (.cells cells 3 (0, 0)) := Kd.R_typed h.n gn (by simp [Value.ownBlock])
theorem Mg.nfrozen (h : Mg w W g6 gn cn A9 A10 c9 c10 v12 T O N Ad) (j : Nat) : W.frozen? ⟨gn, j, none⟩ = false := by
  obtain ⟨cells, hb⟩ := h.ntyped
  exact blk_frozen hb j
theorem Mg.nget (h : Mg w W g6 gn cn A9 A10 c9 c10 v12 T O N Ad) (j : Nat) (hj : j < N.length) : W.cell? ⟨gn, j, none⟩ = some (.int .i64 (rd N (j : Int))) := by
  obtain ⟨ad, e, hc⟩ := Kd.at_int (Kd.R_reads' h.n).2.2 (j : Int) (by omega) (by omega)
  cases e
  rw [add_plain, Int.toNat_natCast] at hc
  exact hc
theorem Mg.nset (h : Mg w W g6 gn cn A9 A10 c9 c10 v12 T O N Ad) (j : Nat) (x : Int) : Mg w (W.setCell ⟨gn, j, none⟩ (.int .i64 x)) g6 gn cn A9 A10 c9 c10 v12 T O (N.set j x) Ad := by
  obtain ⟨cells, hb⟩ := h.ntyped
  obtain ⟨h1, h2⟩ := Kd.R_putg h.n (j : Int) x
  rw [Int.toNat_natCast] at h1 h2
  have hown : (Value.slice (some ⟨gn, 0, none⟩) N.length cn).ownBlock = some gn := by simp [Value.ownBlock]
  refine ⟨blk_grown h.bx h2 (fun e => by injection e with e; exact blk_ne h.bx hb (by decide) e), Kd.S_set h.t hb (by decide) j _, Kd.S_set h.o hb (by decide) j _, by rw [List.length_set]; exact h1,
    Kd.R_grown h.a h2 (fun k hk e => hk (by injection e)), pw_below_grown h.bel (some gn) h.bel.size h2 (fun k hk => by injection hk with hk; subst hk; exact Kd.R_base h.n gn hown), h.lo⟩
/-- Cells of the tables. -/
theorem tab_cells {A : Option Addr} {c m : Nat} {T : List (List Bool)} (h : Kd.S (Kd.slice 4 Kd.bool) 56 W w.heap.size (fun _ => True) (.slice A T.length c) T) (hw : Wide m T) (i q : Nat) (hi : i < T.length) (hq : q < m) :
    ∃ ad ai ci, A = some ad ∧ W.cell? (ad.add i) = some (.slice (some ai) m ci) ∧ W.cell? (ai.add q) = some (.bool (tabAt T i q)) := by
  obtain ⟨ad, Ai, ci, e, hc, hl, hr⟩ := at_L4 (Kd.S_reads' h).2.2 (i : Int) (by omega) (by omega)
  have hm : (rd_L4 T (i : Int)).length = m := by
    have := hw.at hi
    simpa [rd_L4] using this
  obtain ⟨ai, e2, hc2⟩ := Kd.at_bool hr (q : Int) (by omega) (by omega)
  subst e2
  rw [Int.toNat_natCast] at hc hc2
  rw [hm] at hc
  exact ⟨ad, ai, ci, e, hc, by rw [hc2]; simp [tabAt, rdOf, rd_L4]⟩
/-- What an append to the added numbers leaves. -/
theorem Mg.push {v1 : Value} {x : Int} (h : Mg w W g6 gn cn A9 A10 c9 c10 v12 T O N Ad) (hr : Kd.R (Kd.int .i64) 3 W' w.heap.size (fun k => k ≠ gn) v1 (Ad ++ [x])) (hb : Below w.heap.size w W') (hg : W.grownBy W' v12.ownBlock) :
    Mg w W' g6 gn cn A9 A10 c9 c10 v1 T O N (Ad ++ [x]) :=
  ⟨blk_grown h.bx hg (fun e => by
      obtain ⟨cells, hc⟩ := Kd.R_typed h.a g6 e.symm
      exact blk_ne h.bx hc (by decide) rfl), Kd.S_over' h.t (Kd.R_typed h.a) (by decide) hg, Kd.S_over' h.o (Kd.R_typed h.a) (by decide) hg,
    Kd.R_grown h.n hg (fun k hk e => h.a.1 k e.symm hk), hr, hb, h.lo⟩
theorem Mg.far (h : Mg w W g6 gn cn A9 A10 c9 c10 v12 T O N Ad) {g : Nat} {cells : Array Value} (hb : W.heap[g]? = some (.cells cells 55 (0, 0))) (hg : w.heap.size ≤ g) (j : Nat) (v : Value) : Mg w (W.setCell ⟨g, j, none⟩ v) g6 gn cn A9 A10 c9 c10 v12 T O N Ad :=
  ⟨blk_far h.bx (blk_ne h.bx hb (by decide)) v, Kd.S_set h.t hb (by decide) j v, Kd.S_set h.o hb (by decide) j v, Kd.R_mono (Kd.R_far (p := ⟨g, j, none⟩) (Kd.R_types h.n hb (by decide)) (fun _ hk => hk.2) v) (fun _ hk => hk.1),
    Kd.R_mono (Kd.R_far (p := ⟨g, j, none⟩) (Kd.R_types h.a hb (by decide)) (fun _ hk => hk.2) v) (fun _ hk => hk.1), below_set h.bel hg, h.lo⟩
/-- What an append to a row of types leaves. -/
theorem Mg.other {v : Value} (h : Mg w W g6 gn cn A9 A10 c9 c10 v12 T O N Ad) (hty : ∀ k, v.ownBlock = some k → ∃ cells, W.heap[k]? = some (.cells cells 32 (0, 0))) (hb : Below w.heap.size w W') (hg : W.grownBy W' v.ownBlock) :
    Mg w W' g6 gn cn A9 A10 c9 c10 v12 T O N Ad :=
  ⟨blk_grown h.bx hg (fun e => by
      obtain ⟨cells, hc⟩ := hty g6 e.symm
      exact blk_ne h.bx hc (by decide) rfl), Kd.S_over' h.t hty (by decide) hg, Kd.S_over' h.o hty (by decide) hg,
    Kd.R_over' h.n hty (by decide) hg, Kd.R_over' h.a hty (by decide) hg, hb, h.lo⟩
end
end Go.Proofs.Ytpmlcmdojmdmhaa.PR
