/- What frame.match, frame.compress, frame.Sum, frame.put and frame.get compute, as functions on lists, whatever the number of rounds beyond some number. frame.Pack at every slice: it returns what 'frame_Pack.f' tells: the frames of the parts. -/
import Derived.Test.YteljmmdbgnjflaaHComp
import Derived.Test.YteljmmdbgnjflaaPFx2
import Derived.Test.YteljmmdbgnjflaaPFx6
import Derived.Test.YteljmmdbgnjflaaPFx9
import Derived.Test.YteljmmdbgnjflaaPFx15
set_option linter.unusedVariables false
set_option linter.unusedSimpArgs false
namespace Go.Proofs.Yteljmmdbgnjflaa.PF
open Go.RowKit Go.Proofs.YteljmmdbgnjflaaW.PrintWords Go.Proofs.YteljmmdbgnjflaaW.PrintLast Go.Proofs.YteljmmdbgnjflaaW.PrintMore Go.Proofs.Yteljmmdbgnjflaa.H

theorem w64 {v : Int} (h0 : -9223372036854775808 ≤ v) (h1 : v < 9223372036854775808) : wrap64 v = v := by unfold wrap64; omega
theorem rd_nat (xs : List Int) (i : Nat) : rd xs (i : Int) = xs.getD i 0 := by simp [rd]

/-- The length of the repetition at a of what stands at f, from n on. -/
def mrun (xs : List Int) (f a : Nat) : Nat → Nat → Nat
  | 0, n => n
  | d + 1, n => if a + n < xs.length ∧ xs.getD (f + n) 0 = xs.getD (a + n) 0 then mrun xs f a d (n + 1) else n
def mlen (xs : List Int) (f a : Nat) : Nat := mrun xs f a 131 0
def bestFrom (xs : List Int) (a : Nat) : Nat → Nat × Nat → Nat × Nat
  | 0, b => b
  | c + 1, b => bestFrom xs a c (if b.1 < mlen xs c a then (mlen xs c a, a - c) else b)
/-- The length and the distance of the best repetition at a. -/
def best (xs : List Int) (a : Nat) : Nat × Nat := bestFrom xs a a (0, 0)

theorem mrun_le (xs : List Int) (f a : Nat) : ∀ d n, mrun xs f a d n ≤ n + d ∧ n ≤ mrun xs f a d n := by
  intro d
  induction d with
  | zero => intro n; simp [mrun]
  | succ d ih =>
    intro n
    unfold mrun
    split
    · have := ih (n + 1); omega
    · omega
theorem mrun_in (xs : List Int) (f a : Nat) : ∀ d n, a + n ≤ xs.length → a + mrun xs f a d n ≤ xs.length := by
  intro d
  induction d with
  | zero => intro n h; simpa [mrun] using h
  | succ d ih =>
    intro n h
    unfold mrun
    split
    · rename_i hc; exact ih (n + 1) (by omega)
    · omega

theorem match_l1 (xs : List Int) (a f : Nat) (b1 b2 : Int) (hf : f < a) (ha : a ≤ xs.length) (hl : xs.length ≤ 1099511627776) {r : Int × Int} : ∀ d n, n + d = 131 →
    Ev (fun k => if (mrun xs f a d n : Int) > b1 then frame_match.l0 k xs a (mrun xs f a d n : Int) ((a : Int) - f) ((f : Int) - 1) else frame_match.l0 k xs a b1 b2 ((f : Int) - 1)) r →
    Ev (fun k => frame_match.l1 k xs a b1 b2 f n) r := by
  intro d
  induction d with
  | zero =>
    intro n hn h
    refine Ev.step (fun k => ?_) h
    simp only [frame_match.l1, mrun]
    rw [if_neg (by omega), w64 (by omega) (by omega), w64 (v := (f : Int) - 1) (by omega) (by omega)]
    rfl
  | succ d ih =>
    intro n hn h
    have e1 : wrap64 ((a : Int) + n) = ((a + n : Nat) : Int) := by rw [w64 (by omega) (by omega)]; simp
    have e2 : wrap64 ((f : Int) + n) = ((f + n : Nat) : Int) := by rw [w64 (by omega) (by omega)]; simp
    have e3 : wrap64 ((n : Int) + 1) = ((n + 1 : Nat) : Int) := by rw [w64 (by omega) (by omega)]; simp
    have e4 : wrap64 ((a : Int) - f) = (a : Int) - f := w64 (by omega) (by omega)
    have e5 : wrap64 ((f : Int) - 1) = (f : Int) - 1 := w64 (by omega) (by omega)
    unfold mrun at h
    by_cases hlt : a + n < xs.length
    · by_cases he : xs.getD (f + n) 0 = xs.getD (a + n) 0
      · rw [if_pos ⟨hlt, he⟩] at h
        refine Ev.step (fun k => ?_) (ih (n + 1) (by omega) h)
        simp only [frame_match.l1]
        rw [e1, e2, e3, rd_nat, rd_nat, if_pos (by omega), if_pos (by omega), if_pos (by omega), if_pos (by omega), if_pos (by omega), if_pos he]
      · rw [if_neg (fun hh => he hh.2)] at h
        refine Ev.step (fun k => ?_) h
        simp only [frame_match.l1]
        rw [e1, e2, e4, e5, rd_nat, rd_nat, if_pos (by omega), if_pos (by omega), if_pos (by omega), if_pos (by omega), if_pos (by omega), if_neg he]
    · rw [if_neg (by omega)] at h
      refine Ev.step (fun k => ?_) h
      simp only [frame_match.l1]
      rw [e1, e4, e5, if_pos (by omega), if_neg (by omega)]

theorem match_l0 (xs : List Int) (a : Nat) (ha : a ≤ xs.length) (hl : xs.length ≤ 1099511627776) : ∀ c (b1 b2 : Nat), c ≤ a →
    Ev (fun k => frame_match.l0 k xs a b1 b2 ((c : Int) - 1)) (((bestFrom xs a c (b1, b2)).1 : Int), ((bestFrom xs a c (b1, b2)).2 : Int)) := by
  intro c
  induction c with
  | zero =>
    intro b1 b2 _
    refine Ev.step (f := fun _ => some ((b1 : Int), (b2 : Int))) (fun k => ?_) (Ev.now _)
    simp only [frame_match.l0]
    rw [if_neg (by omega)]
  | succ c ih =>
    intro b1 b2 hc
    refine Ev.step (f := fun k => frame_match.l1 k xs a b1 b2 ((c : Nat) : Int) ((0 : Nat) : Int)) (fun k => ?_) (match_l1 xs a c b1 b2 (by omega) ha hl 131 0 (by omega) ?_)
    · simp only [frame_match.l0]
      rw [if_pos (by omega)]
      have : ((c + 1 : Nat) : Int) - 1 = c := by omega
      rw [this]
      rfl
    · have hm : mrun xs c a 131 0 = mlen xs c a := rfl
      rw [hm]
      unfold bestFrom
      by_cases h : b1 < mlen xs c a
      · rw [if_pos (show (b1, b2).1 < mlen xs c a from h)]
        refine Ev.congr (fun k => ?_) (ih (mlen xs c a) (a - c) (by omega))
        rw [if_pos (by omega)]
        congr 1
        omega
      · rw [if_neg (show ¬ (b1, b2).1 < mlen xs c a from h)]
        refine Ev.congr (fun k => ?_) (ih b1 b2 (by omega))
        rw [if_neg (by omega)]

theorem match_ev (xs : List Int) (a : Nat) (ha : a ≤ xs.length) (hl : xs.length ≤ 1099511627776) : Ev (fun k => frame_match.f k xs a) (((best xs a).1 : Int), ((best xs a).2 : Int)) := by
  refine Ev.congr (fun k => ?_) (match_l0 xs a ha hl a 0 0 (Nat.le_refl _))
  unfold frame_match.f
  rw [w64 (by omega) (by omega)]
  rfl

theorem bestFrom_le (xs : List Int) (a : Nat) (ha : a ≤ xs.length) : ∀ c b, b.1 ≤ 131 → b.2 ≤ a → a + b.1 ≤ xs.length → c ≤ a → (bestFrom xs a c b).1 ≤ 131 ∧ (bestFrom xs a c b).2 ≤ a ∧ a + (bestFrom xs a c b).1 ≤ xs.length := by
  intro c
  induction c with
  | zero => intro b h1 h2 h3 _; exact ⟨h1, h2, h3⟩
  | succ c ih =>
    intro b h1 h2 h3 hc
    unfold bestFrom
    split
    · exact ih _ (by have := mrun_le xs c a 131 0; unfold mlen; simp; omega) (by simp) (by have := mrun_in xs c a 131 0 (by omega); unfold mlen; simpa using this) (by omega)
    · exact ih _ h1 h2 h3 (by omega)
theorem best_le (xs : List Int) (a : Nat) (ha : a ≤ xs.length) : (best xs a).1 ≤ 131 ∧ (best xs a).2 ≤ a ∧ a + (best xs a).1 ≤ xs.length :=
  bestFrom_le xs a ha a (0, 0) (by simp) (by simp) (by simpa using ha) (Nat.le_refl _)

/-! ### compress -/
/-- The packed form of what stands from a on. -/
def compL (xs : List Int) : Nat → List Int → List Int → Nat → List Int
  | 0, lits, outs, _ => flushed outs lits
  | f + 1, lits, outs, a => if a < xs.length then (if (best xs a).1 < 4 then compL xs f (lits ++ [xs.getD a 0]) outs (a + 1) else
      compL xs f [] (flushed outs lits ++ [124 + ((best xs a).1 : Int), ((best xs a).2 : Int) % 256, ((best xs a).2 : Int) / 256 % 256]) (a + (best xs a).1)) else flushed outs lits
def comp (xs : List Int) : List Int := compL xs xs.length [] [] 0

theorem compress_l0 (xs : List Int) (hl : xs.length ≤ 1048576) : ∀ f a lits outs, a ≤ xs.length → xs.length - a ≤ f → lits.length ≤ a → outs.length + 3 * lits.length ≤ 200 * a →
    Ev (fun k => frame_compress.l0 k xs lits outs a) (compL xs f lits outs a) := by
  intro f
  induction f with
  | zero =>
    intro a lits outs ha hf h1 h2
    refine Ev.step (f := fun _ => some (flushed outs lits)) (fun k => ?_) (Ev.now _)
    simp only [frame_compress.l0]
    rw [if_pos ⟨by omega, by omega, by omega⟩, if_neg (by omega)]
  | succ f ih =>
    intro a lits outs ha hf h1 h2
    unfold compL
    by_cases hlt : a < xs.length
    · rw [if_pos hlt]
      obtain ⟨hb1, hb2, hb3⟩ := best_le xs a ha
      have hm := match_ev xs a ha (by omega)
      refine Ev.step (f := fun k => (frame_match.f k xs a).bind fun t => (if t.1 < 4 then (frame_compress.l0 k xs (lits ++ [rd xs a]) outs ((a : Int) + 1)) else
        (if t.1 ≤ 131 ∧ 0 ≤ t.2 ∧ t.2 ≤ 1048576 then (frame_compress.l0 k xs [] (flushed outs lits ++ [124 + t.1, t.2 % 256, t.2 / 256 % 256]) ((a : Int) + t.1)) else none))) (fun k => ?_) (Ev.bind hm ?_)
      · simp only [frame_compress.l0]
        rw [if_pos ⟨by omega, by omega, by omega⟩, if_pos (by omega)]
      · by_cases hs : (best xs a).1 < 4
        · rw [if_pos hs]
          refine Ev.congr (fun k => ?_) (ih (a + 1) (lits ++ [xs.getD a 0]) outs (by omega) (by omega) (by simp; omega) (by simp; omega))
          rw [if_pos (by simp only; omega), rd_nat]
          rfl
        · rw [if_neg hs]
          have hfl := flushed_le outs lits
          refine Ev.congr (fun k => ?_) (ih (a + (best xs a).1) [] _ (by omega) (by omega) (by simp) (by simp only [List.length_append, List.length_cons, List.length_nil]; omega))
          rw [if_neg (by simp only; omega), if_pos ⟨by simp only; omega, by simp only; omega, by simp only; omega⟩]
          simp
    · rw [if_neg hlt]
      refine Ev.step (f := fun _ => some (flushed outs lits)) (fun k => ?_) (Ev.now _)
      simp only [frame_compress.l0]
      rw [if_pos ⟨by omega, by omega, by omega⟩, if_neg (by omega)]

theorem compress_ev (xs : List Int) (hl : xs.length ≤ 1048576) : Ev (fun k => frame_compress.f k xs) (comp xs) :=
  compress_l0 xs hl xs.length 0 [] [] (by omega) (by omega) (by simp) (by simp)

/-! ### Sum, put -/
def sumStep (s : Int × Int) (x : Int) : Int × Int := (Int.tmod (wrap64 (s.1 + (wrap64 x))) 65521, Int.tmod (wrap64 (s.2 + Int.tmod (wrap64 (s.1 + (wrap64 x))) 65521)) 65521)
def sum (xs : List Int) : Int := Go.bits .or .i64 (wrap64 ((xs.foldl sumStep (1, 0)).2 * 65536)) (xs.foldl sumStep (1, 0)).1
theorem sum_l0 (xs : List Int) (hl : xs.length ≤ 9223372036854775806) : ∀ d i a b, i + d = xs.length →
    Ev (fun k => frame_Sum.l0 k a b xs (xs.length : Int) (i : Int)) (Go.bits .or .i64 (wrap64 (((xs.drop i).foldl sumStep (a, b)).2 * 65536)) ((xs.drop i).foldl sumStep (a, b)).1) := by
  intro d
  induction d with
  | zero =>
    intro i a b hi
    rw [List.drop_eq_nil_of_le (by omega)]
    refine Ev.step (f := fun _ => some _) (fun k => ?_) (Ev.now _)
    simp only [frame_Sum.l0]
    rw [if_neg (by omega)]
    rfl
  | succ d ih =>
    intro i a b hi
    have hlt : i < xs.length := by omega
    rw [List.drop_eq_getElem_cons hlt, List.foldl_cons]
    refine Ev.step (fun k => ?_) (ih (i + 1) _ _ (by omega))
    simp only [frame_Sum.l0]
    have e3 : wrap64 ((i : Int) + 1) = ((i + 1 : Nat) : Int) := by rw [w64 (by omega) (by omega)]; simp
    have e4 : xs.getD i 0 = xs[i] := by simp [hlt]
    rw [e3, rd_nat, e4, if_pos (by omega), if_pos (by omega), if_pos (by omega)]
    all_goals first | done | rfl
theorem sum_ev (xs : List Int) (hl : xs.length ≤ 9223372036854775806) : Ev (fun k => frame_Sum.f k xs) (sum xs) := by
  have := sum_l0 xs hl xs.length 0 1 0 (by omega)
  exact this

/-- The n least significant bytes of x, the least first. -/
def le (n : Nat) (x : Int) : List Int := (List.range n).map fun i => shr .i64 x ((8 * i : Nat) : Int) % 256
theorem put_l0 (x : Int) (n : Nat) (hn : n ≤ 8) : ∀ d i (o : List Int), i + d = n → o.length + 8 < 140737488355328 →
    Ev (fun k => frame_put.l0 k (o ++ (List.range i).map fun i => shr .i64 x ((8 * i : Nat) : Int) % 256) x (n : Int) (i : Int)) (o ++ le n x) := by
  intro d
  induction d with
  | zero =>
    intro i o hi ho
    refine Ev.step (f := fun _ => some _) (fun k => ?_) (Ev.now _)
    simp only [frame_put.l0]
    rw [if_neg (by omega)]
    have : i = n := by omega
    subst this
    rfl
  | succ d ih =>
    intro i o hi ho
    refine Ev.step (fun k => ?_) (ih (i + 1) o (by omega) ho)
    simp only [frame_put.l0]
    have e3 : wrap64 ((i : Int) + 1) = ((i + 1 : Nat) : Int) := by rw [w64 (by omega) (by omega)]; simp
    have e4 : wrap64 (8 * (i : Int)) = ((8 * i : Nat) : Int) := by rw [w64 (by omega) (by omega)]; simp
    rw [e3, e4, if_pos (by omega), if_pos (by omega), if_pos (by simp; omega), List.range_succ, List.map_append]
    simp
theorem put_ev (o : List Int) (x : Int) (n : Nat) (hn : n ≤ 8) (ho : o.length + 8 < 140737488355328) : Ev (fun k => frame_put.f k o x (n : Int)) (o ++ le n x) := by
  refine Ev.congr (fun k => ?_) (put_l0 x n hn n 0 o (by omega) ho)
  unfold frame_put.f
  simp
theorem le_length (n : Nat) (x : Int) : (le n x).length = n := by simp [le]

/-! ### how long the packed form is -/
theorem pieces_flat (xs : List Int) (m : Nat) : ∀ k, (pieces xs m k).flatMap id = xs.take (k * m) := by
  intro k
  induction k with
  | zero => simp [pieces]
  | succ k ih =>
    rw [pieces_succ, List.flatMap_append, ih]
    simp only [List.flatMap_cons, List.flatMap_nil, List.append_nil, id]
    rw [← List.take_add, Nat.add_mul, Nat.one_mul]
theorem runs_length (ps : List (List Int)) : (runs ps).length = (ps.flatMap id).length + ps.length := by
  induction ps with
  | nil => simp [runs]
  | cons p ps ih =>
    simp only [runs, List.flatMap_cons, List.length_append, List.length_cons, runOf_length, id] at ih ⊢
    omega
theorem flushed_length (outs lits : List Int) : (flushed outs lits).length = outs.length + lits.length + (lits.length + 127) / 128 := by
  unfold flushed
  rw [List.length_append, runs_length, pieces_flat, List.take_of_length_le (by omega)]
  simp [pieces]
  omega
theorem compL_length (xs : List Int) : ∀ f lits outs a, a ≤ xs.length → outs.length + lits.length ≤ (compL xs f lits outs a).length ∧ (compL xs f lits outs a).length ≤ outs.length + 2 * lits.length + 2 * (xs.length - a) := by
  intro f
  induction f with
  | zero => intro lits outs a ha; unfold compL; rw [flushed_length]; omega
  | succ f ih =>
    intro lits outs a ha
    unfold compL
    split
    · split
      · have := ih (lits ++ [xs.getD a 0]) outs (a + 1) (by omega)
        simp only [List.length_append, List.length_cons, List.length_nil] at this
        omega
      · have hb := best_le xs a ha
        have := ih [] (flushed outs lits ++ [124 + ((best xs a).1 : Int), ((best xs a).2 : Int) % 256, ((best xs a).2 : Int) / 256 % 256]) (a + (best xs a).1) (by omega)
        simp only [List.length_append, List.length_cons, List.length_nil, flushed_length] at this
        omega
    · rw [flushed_length]; omega
theorem comp_length (xs : List Int) : (comp xs).length ≤ 2 * xs.length := by
  have := (compL_length xs xs.length [] [] 0 (by omega)).2
  simpa [comp] using this
theorem comp_pos (xs : List Int) (h : 1 ≤ xs.length) : 1 ≤ (comp xs).length := by
  unfold comp
  obtain ⟨n, hn⟩ : ∃ n, xs.length = n + 1 := ⟨xs.length - 1, by omega⟩
  rw [hn]
  unfold compL
  rw [if_pos (by omega)]
  split
  · have := (compL_length xs n ([] ++ [xs.getD 0 0]) [] (0 + 1) (by omega)).1
    simp only [List.length_append, List.length_cons, List.length_nil] at this
    omega
  · have hb := best_le xs 0 (by omega)
    have := (compL_length xs n [] (flushed [] [] ++ [124 + ((best xs 0).1 : Int), ((best xs 0).2 : Int) % 256, ((best xs 0).2 : Int) / 256 % 256]) (0 + (best xs 0).1) (by omega)).1
    simp only [List.length_append, List.length_cons, List.length_nil] at this
    omega
end Go.Proofs.Yteljmmdbgnjflaa.PF

namespace Go.Proofs.Yteljmmdbgnjflaa.PF
open Go.RowKit Go.Shelf Go.Proofs.YteljmmdbgnjflaaW.PrintWords Go.Proofs.YteljmmdbgnjflaaW.PrintLast Go.Proofs.YteljmmdbgnjflaaW.PrintMore Go.Proofs.Yteljmmdbgnjflaa.H
attribute [local go_sem] Oper.semAt_some

/-- A frame: the number of bytes, that of the packed form, the checksum, the packed form. -/
def frame1 (p : List Int) : List Int := le 2 p.length ++ le 2 (comp p).length ++ le 4 (sum p) ++ comp p
def frames (xs : List Int) : List Int := (pieces xs 1024 ((xs.length + 1023) / 1024)).flatMap frame1
def frame_Pack.f (l0 : List Int) : Option (List Int × Int × Int) := if (l0.length : Int) > 100000 then some ([], 2, -1) else some (frames l0, 0, 0)

def fouts {T : Nat → Prop} {w : World} {m : Nat} (pre : List (Part T w m)) : List Int := (pre.map fun y => y.1.2).flatMap frame1
theorem fouts_snoc {T : Nat → Prop} {w : World} {m : Nat} (pre : List (Part T w m)) (x : Part T w m) : fouts (pre ++ [x]) = fouts pre ++ frame1 x.1.2 := by simp [fouts]
theorem fouts_le {T : Nat → Prop} {w : World} (pre : List (Part T w 1024)) : (fouts pre).length ≤ 2056 * pre.length := by
  unfold fouts
  induction pre with
  | nil => simp
  | cons x pre ih =>
    have hx := x.2.2.2.1
    have hc := comp_length x.1.2
    simp only [List.map_cons, List.flatMap_cons, List.length_append, List.length_cons, frame1, le_length] at ih ⊢
    omega

theorem four_blocks (w : World) (a b c d : Obj) : let w1 := (((w.alloc a).alloc b).alloc c).alloc d
    w1.heap[w.heap.size]? = some a ∧ w1.heap[w.heap.size + 1]? = some b ∧ w1.heap[w.heap.size + 1 + 1]? = some c ∧ w1.heap[w.heap.size + 1 + 1 + 1]? = some d ∧ w1.heap.size = w.heap.size + 4 ∧ Below w.heap.size w w1 := by
  intro w1
  have s1 : (w.alloc a).heap.size = w.heap.size + 1 := World.size_alloc _ _
  have s2 : ((w.alloc a).alloc b).heap.size = w.heap.size + 1 + 1 := by rw [World.size_alloc, s1]
  have s3 : (((w.alloc a).alloc b).alloc c).heap.size = w.heap.size + 1 + 1 + 1 := by rw [World.size_alloc, s2]
  have e0 := blk_alloc (blk_alloc (blk_alloc (blk_new w a) b) c) d
  have e1 := blk_alloc (blk_alloc (blk_new (w.alloc a) b) c) d
  have e2 := blk_alloc (blk_new ((w.alloc a).alloc b) c) d
  have e3 := blk_new (((w.alloc a).alloc b).alloc c) d
  rw [s1] at e1
  rw [s2] at e2
  rw [s3] at e3
  exact ⟨e0, e1, e2, e3, by show ((((w.alloc a).alloc b).alloc c).alloc d).heap.size = _; rw [World.size_alloc, s3], below_alloc (below_alloc (below_alloc (below_alloc (Below.refl _ _) _) _) _) _⟩

theorem chain3 {w2 w3 w4 w6 : World} {P0 : Nat → Prop} {nd : Nat} (k1 : Kept w2 w3 (fun k => P0 k)) (k2 : Kept w3 w4 (fun k => P0 k ∨ w2.heap.size ≤ k)) (k3 : Kept (w4.drewN nd) w6 (fun k => (P0 k ∨ w2.heap.size ≤ k) ∨ w3.heap.size ≤ k)) :
    (∀ i, i < w2.heap.size → ¬ P0 i → w6.heap[i]? = w2.heap[i]?) ∧ w2.heap.size ≤ w6.heap.size := by
  obtain ⟨s1, h1⟩ := k1
  obtain ⟨s2, h2⟩ := k2
  obtain ⟨s3, h3⟩ := k3
  have s3' : w4.heap.size ≤ w6.heap.size := s3
  refine ⟨fun i hi hn => ?_, by omega⟩
  have e3 := h3 i (show i < w4.heap.size by omega) (by
    rintro ((h | h) | h)
    · exact hn h
    · omega
    · omega)
  have e2 := h2 i (by omega) (by
    rintro (h | h)
    · exact hn h
    · omega)
  exact e3.trans (e2.trans (h1 i hi hn))

/-- What a round of Pack leaves. -/
theorem pack_round {W w2 w6 w8 : World} {vo v5 v8 : Value} {O n₀ : Nat} {xs o3 zs : List Int} {q : Nat} (hB2 : Below W.heap.size W w2) (HCH : ∀ i, i < w2.heap.size → ¬ (vo.ownBlock = some i) → w6.heap[i]? = w2.heap[i]?) (hs6 : w2.heap.size ≤ w6.heap.size)
    (G : (w6.setCell ⟨O, 0, none⟩ v5).grownBy w8 v5.ownBlock) (hv5 : ∀ k, v5.ownBlock = some k → vo.ownBlock = some k ∨ w2.heap.size ≤ k) (hat : v8.ownBlock = v5.ownBlock ∨ v8.ownBlock = some (w6.setCell ⟨O, 0, none⟩ v5).heap.size)
    (bO : Boxed W O 22 vo) (ro : W.ownsRow n₀ 5 1 vo xs.length (nums .u8 xs)) (ho5 : (w6.setCell ⟨O, 0, none⟩ v5).ownsRow n₀ 5 1 v5 o3.length (nums .u8 o3)) (hown : w8.ownsRow n₀ 5 1 v8 q (nums .u8 zs)) (hn : n₀ ≤ W.heap.size) (hO : n₀ ≤ O) (B : Nat) :
    Boxed w8 O 22 v5 ∧ KeepsFrom B W (w8.setCell ⟨O, 0, none⟩ v8) ∧ (∀ k, k < W.heap.size → vo.ownBlock ≠ some k → k ≠ O → (w8.setCell ⟨O, 0, none⟩ v8).heap[k]? = W.heap[k]?) ∧ Boxed (w8.setCell ⟨O, 0, none⟩ v8) O 22 v8 ∧
      (w8.setCell ⟨O, 0, none⟩ v8).ownsRow n₀ 5 1 v8 q (nums .u8 zs) ∧ (∀ k, v8.ownBlock = some k → vo.ownBlock = some k ∨ W.heap.size ≤ k) ∧ W.heap.size ≤ (w8.setCell ⟨O, 0, none⟩ v8).heap.size := by
  have hs2 := hB2.size
  have hs7 : w6.heap.size ≤ (w6.setCell ⟨O, 0, none⟩ v5).heap.size := (KeepsWalks.setCell w6 ⟨O, 0, none⟩ v5).size
  have hs8 := G.size
  have hs9 : w8.heap.size ≤ (w8.setCell ⟨O, 0, none⟩ v8).heap.size := (KeepsWalks.setCell w8 ⟨O, 0, none⟩ v8).size
  have nO : vo.ownBlock ≠ some O := fun e => bO.not_row (by decide) ro e.symm
  have hOlt := bO.lt
  have b6 : Boxed w6 O 22 vo := (HCH O (by omega) nO).trans ((hB2.block O hOlt).trans bO)
  have b7 : Boxed (w6.setCell ⟨O, 0, none⟩ v5) O 22 v5 := b6.set v5
  have b8 : Boxed w8 O 22 v5 := b7.kept G (b7.not_row (by decide) ho5)
  have step : ∀ k, k < W.heap.size → vo.ownBlock ≠ some k → k ≠ O → (w8.setCell ⟨O, 0, none⟩ v8).heap[k]? = W.heap[k]? := by
    intro k hk hne hkO
    rw [Below.heap_setCell w8 ⟨O, 0, none⟩ v8 k hkO, G.block k (by omega) (fun e => (hv5 k e.symm).elim hne (fun h => by omega)), Below.heap_setCell w6 ⟨O, 0, none⟩ v5 k hkO, HCH k (by omega) hne, hB2.block k hk]
  refine ⟨b8, ⟨by omega, ?_⟩, step, b8.set v8, hown.kept (grownBy_setCell' w8 O v8) (.inr (b8.not_row (by decide) hown).symm), ?_, by omega⟩
  · intro k ob _ hob hcells
    have hk := (Array.getElem?_eq_some_iff.1 hob).1
    rw [step k hk ?_ ?_]
    · exact hob
    · intro e
      obtain ⟨cells, hc⟩ := own_typed ro k e
      rw [hob] at hc; cases hc; cases hcells
    · rintro rfl
      rw [show W.heap[k]? = _ from bO] at hob; cases hob; cases hcells
  · intro k e
    rcases hat with h | h <;> rw [h] at e
    · rcases hv5 k e with h | h
      · exact .inl h
      · exact .inr (by omega)
    · injection e with e; exact .inr (by omega)

theorem some_addr {W : World} {A : Option Addr} {xs : List Int} (h : Kd.C (Kd.int .u8) W A xs.length xs) (hp : 1 ≤ xs.length) : ∃ ad, A = some ad := by
  obtain ⟨ad, e, _⟩ := Kd.at_int h 0 (by omega) (by omega)
  exact ⟨ad, e⟩

theorem own_of_R5 {W : World} {base : Nat} {ok : Nat → Prop} {v : Value} {xs : List Int} (h : Kd.R (Kd.int .u8) 5 W base ok v xs) : W.ownsRow base 5 1 v xs.length (nums .u8 xs) := Kd.own_of_R h

theorem how7 {w6 : World} {O base : Nat} {vo v5 : Value} {o3 : List Int} {ok : Nat → Prop} (hR : Kd.R (Kd.int .u8) 5 w6 base ok v5 o3) (b6 : Boxed w6 O 22 vo) : (w6.setCell ⟨O, 0, none⟩ v5).ownsRow base 5 1 v5 o3.length (nums .u8 o3) :=
  World.ownsRow.kept (own_of_R5 hR) (grownBy_setCell' w6 O v5) (.inr (b6.not_row (by decide) (own_of_R5 hR)).symm)
theorem set_size (w6 : World) (p : Addr) (v : Value) : w6.heap.size ≤ (w6.setCell p v).heap.size := (KeepsWalks.setCell w6 p v).size
theorem packed_cells {W w2 w6 : World} {vo : Value} {n₀ O B c : Nat} {ok : Nat → Prop} {ad : Addr} {xs ys : List Int} (hC : Kd.C (Kd.int .u8) w2 (some ad) ys.length ys) (hR : Kd.R (Kd.int .u8) 5 w2 W.heap.size ok (.slice (some ad) ys.length c) ys)
    (HCH : ∀ i, i < w2.heap.size → ¬ (vo.ownBlock = some i) → w6.heap[i]? = w2.heap[i]?) (ro : W.ownsRow n₀ 5 1 vo xs.length (nums .u8 xs)) (hO : O < B) (hB : B ≤ W.heap.size) (v : Value) :
    ∀ j, j < ys.length → (w6.setCell ⟨O, 0, none⟩ v).cell? (ad.add j) = some (.int .u8 (ys.getD j 0)) := by
  intro j hj
  obtain ⟨ad', e, hc⟩ := Kd.at_int hC (j : Int) (by omega) (by omega)
  cases e
  have hc' : w2.cell? (ad.add j) = some (.int .u8 (ys.getD j 0)) := by rw [rd_nat, Int.toNat_natCast] at hc; exact hc
  have b1 := own_base (own_of_R5 hR) ad.block (by simp [Value.ownBlock])
  have b2 := own_lt (own_of_R5 hR) ad.block (by simp [Value.ownBlock])
  rw [World.cell?_setCell_other _ _ _ _ (fun e => by have : O = (ad.add j).block := by rw [← e]
                                                     rw [add_block] at this; omega)]
  refine (World.cell?_of_block ?_).trans hc'
  rw [add_block]
  exact HCH _ b2 (fun e => by have := own_lt ro _ e; omega)

def PackPost (w : World) (r1 : List Int) (r2 r3 : Int) (e : Ending) (w' : World) : Prop := ∃ v0_ : Value, e = .returned (.tuple #[v0_, .agg #[.int .i64 r2, .int .i64 r3]]) ∧ Kd.R (Kd.int .u8) 5 w' w.heap.size (fun _ => True) v0_ r1 ∧ Below w.heap.size w w'

set_option maxRecDepth 100000 in
set_option maxHeartbeats 8000000 in
theorem pack_in (n : Nat) (hn : 4 ≤ n) (A : Option Addr) (c : Nat) (xs : List Int) (w : World) (hr0 : Kd.C (Kd.int .u8) w A xs.length xs) (hc0 : xs.length ≤ c) (hl : xs.length ≤ 100000) :
    CallsIn Fence.wide n Try.prog 13 #[.slice A xs.length c] w (PackPost w (frames xs) 0 0) := by
  have h1 : 1 ≤ n := by omega
  have hl' : decide (100000 < (xs.length : Int)) = false := decide_eq_false (by omega)
  have HR0 := Aside0.mk hr0
  clear hr0
  refine callsIn_of_wp_marks Try.func13 rfl trivial ?_ rfl
  simp only [Try.ntmps13, List.size_toArray, List.length_cons, List.length_nil, Nat.reduceAdd, Nat.reduceSub, Array.replicate_succ, Array.replicate_zero, List.push_toArray, List.append_toArray, List.nil_append, List.cons_append]
  gi_wp2_with (refine ⟨trivial, ?_⟩; gi_at_call 18; refine (chunk_in (n - 1) _ _ _ _ (by omega) _).mono ?_; rintro e w' ⟨rfl, rfl⟩)
  obtain ⟨w1, hw1⟩ : ∃ w1, (((w.alloc (.cells #[.int .i64 0, .int .i64 0] 29)).alloc (.cells #[.slice none 0 0] 22)).alloc (.cells #[.slice A xs.length c] 22)).alloc (.cells #[.int .i64 1024] 3) = w1 := ⟨_, rfl⟩
  obtain ⟨f0, f1, f2, f3, f4, f5⟩ := four_blocks w (.cells #[.int .i64 0, .int .i64 0] 29) (.cells #[.slice none 0 0] 22) (.cells #[.slice A xs.length c] 22) (.cells #[.int .i64 1024] 3)
  rw [hw1] at f0 f1 f2 f3 f4 f5 ⊢
  clear hw1
  have hsz1 : w.heap.size + 4 ≤ w1.heap.size := by omega
  have hsz1b : w1.heap.size ≤ w.heap.size + 4 := by omega
  clear f4
  have F0 := Aside0.mk f0
  have F2 := Aside0.mk f2
  have F3 := Aside0.mk f3
  have bO1 : Boxed w1 (w.heap.size + 1) 22 (.slice none 0 0) := f1
  clear f0 f1 f2 f3
  let S : Nat → Prop := fun k => k < w1.heap.size ∧ k ≠ w.heap.size + 1
  have hSlt : ∀ k, S k → k < w1.heap.size := fun k hk => hk.1
  have hSA : 0 < xs.length → ∀ ad, A = some ad → ad.block < w.heap.size := by
    intro hp ad e
    obtain ⟨ad', e', hcA⟩ := Kd.at_int HR0.out 0 (by omega) (by omega)
    rw [e] at e'; cases e'
    have := World.block_lt_of_cell? w _ hcA
    rwa [add_block] at this
  refine wpIn_rangeFunc_ownG rfl h1 (gf := 23) (lb := #[.pointer (some ⟨w.heap.size + 1 + 1, 0, none⟩), .pointer (some ⟨w.heap.size + 1 + 1 + 1, 0, none⟩)]) rfl trivial (enters_of Try.func23 (by kernel_rfl) rfl)
    (chunk_stops (n - 1) (by omega) (w.heap.size + 1 + 1) (w.heap.size + 1 + 1 + 1) c 1024 A S (fun k => k < w.heap.size) xs w1 (by omega) (by omega) hc0 (by omega) ⟨by omega, by omega⟩ ⟨by omega, by omega⟩ hSA (Kd.C_below HR0.out f5)
      (show Boxed w1 _ _ _ from F2.out).cell (show Boxed w1 _ _ _ from F3.out).cell)
    (fun h k => h.trans k) (fun W l o o' hl ho _ _ k hk => World.putObj_heap_other (by have := hSlt k hk; omega)) (Below.refl _ _) (fun _ => rfl)
    (fun pre W => ((∃ vo, Boxed W (w.heap.size + 1) 22 vo ∧ W.ownsRow w.heap.size 5 1 vo (fouts pre).length (nums .u8 (fouts pre)) ∧ (∀ k, vo.ownBlock = some k → w1.heap.size ≤ k)) ∧ Below w.heap.size w W) ∧ (KeepsS S w1 W ∧ w1.heap.size ≤ W.heap.size))
    (fun _ _ _ => False)
    (OwnFrom.and (OwnFrom.and (Own.from (holdsRow_own w.heap.size (w.heap.size + 1) 22 5 1 (fun pre => (fouts pre).length) (fun pre => nums .u8 (fouts pre)) (fun pre v => ∀ k, v.ownBlock = some k → w1.heap.size ≤ k)) _) (ownFrom_below (Nat.le_refl _) (by omega))) (KeepsS.ownFrom hSlt (Nat.le_refl _)))
    (fun _ _ _ _ _ hs _ _ => hs)
    ⟨⟨⟨_, bO1, Own5.nil w1 w.heap.size, fun k e => by simp [Value.ownBlock] at e⟩, f5⟩, KeepsS.refl _ _, Nat.le_refl _⟩
    (fun x => { tmps := #[.slice A xs.length c, undef, .slice none 0 0, .pointer (some ⟨w.heap.size, 0, none⟩), .pointer (some ⟨w.heap.size + 1, 0, none⟩), .slice (some x.1.1) x.1.2.length x.1.2.length, undef, .slice A xs.length c, .int .i64 (xs.length : Int), .bool false, undef, .slice A xs.length c,
      .func (.func 23) #[] #[.pointer (some ⟨w.heap.size + 1 + 1, 0, none⟩), .pointer (some ⟨w.heap.size + 1 + 1 + 1, 0, none⟩)], .slice (some x.1.1) x.1.2.length x.1.2.length, undef, undef, undef, undef, undef, undef, undef, undef, undef, undef, undef, undef, undef, undef, undef, undef, undef], defers := [] }) ?assign ?body ?done ?stop
  case assign =>
    intro l x W K hK
    gi_wp2
    exact hK
  case body =>
    rintro l pre x W ⟨⟨⟨vo, bO, ro, hap⟩, hB⟩, hks, hsz⟩ hlt
    have HG := Aside0.mk (fouts_snoc pre x)
    obtain ⟨⟨ad, ps⟩, hxS, hx1, hx2, hxc⟩ := x
    dsimp only at hxS hx1 hx2 hxc HG ⊢
    have HKS := Aside0.mk hks
    clear hks
    have hlo := fouts_le pre
    have hcl := comp_length ps
    have hcp := comp_pos ps hx1
    obtain ⟨kc, hkc⟩ := (compress_ev ps (by omega)).rounds
    obtain ⟨ks, hks2⟩ := (sum_ev ps (by omega)).rounds
    obtain ⟨o1, ho1⟩ : ∃ o1, o1 = fouts pre ++ le 2 ps.length := ⟨_, rfl⟩
    obtain ⟨o2, ho2⟩ : ∃ o2, o2 = o1 ++ le 2 (comp ps).length := ⟨_, rfl⟩
    obtain ⟨o3, ho3⟩ : ∃ o3, o3 = o2 ++ le 4 (sum ps) := ⟨_, rfl⟩
    have l1 : o1.length = (fouts pre).length + 2 := by rw [ho1, List.length_append, le_length]
    have l2 : o2.length = (fouts pre).length + 4 := by rw [ho2, List.length_append, le_length]; omega
    have l3 : o3.length = (fouts pre).length + 8 := by rw [ho3, List.length_append, le_length]; omega
    obtain ⟨k1, hk1⟩ := (put_ev (fouts pre) ps.length 2 (by omega) (by omega)).rounds
    obtain ⟨k2, hk2⟩ := (put_ev o1 (comp ps).length 2 (by omega) (by omega)).rounds
    obtain ⟨k3, hk3⟩ := (put_ev o2 (sum ps) 4 (by omega) (by omega)).rounds
    rw [← ho1] at hk1
    rw [← ho2] at hk2
    rw [← ho3] at hk3
    have HE := Aside0.mk (show o3 ++ comp ps = fouts pre ++ frame1 ps by rw [ho3, ho2, ho1]; simp [frame1])
    have hl3 : o3.length ≤ 100000 * 2056 + 8 := by omega
    have HL3 := Aside0.mk l3
    clear ho1 ho2 ho3 l1 l2 l3
    have HKC := Aside0.mk hkc
    have HK2 := Aside0.mk hks2
    have HP1 := Aside0.mk hk1
    have HP2 := Aside0.mk hk2
    have HP3 := Aside0.mk hk3
    clear hkc hks2 hk1 hk2 hk3
    have hpc0 : Kd.C (Kd.int .u8) w (some ad) ps.length ps := Kd.C_of_reads (d := 0) ⟨rfl, by omega, fun _ => ⟨ad, rfl, fun j hj => by
      have h1 := hxc j hj
      rw [f5.cell (p := ad.add j) (by rw [add_block]; exact hxS)] at h1
      exact h1⟩⟩
    have HPC0 := Aside0.mk hpc0
    have HPC := Aside0.mk (Kd.C_below hpc0 hB)
    clear hpc0
    have HO0 := Aside0.mk (show Kd.R (Kd.int .u8) 5 W w.heap.size (fun k => vo.ownBlock = some k) vo (fouts pre) from Kd.R_of_own ro (fun k e => e))
    have HAP := Aside0.mk hap
    have HRO := Aside0.mk ro
    clear hap ro
    have hc := bO.cell
    have hdep : 1 ≤ n - 1 - 1 := by omega
    have hO1 : w.heap.size + 1 < w1.heap.size := by omega
    gi_wp2_with (first
      | (refine ⟨trivial, ?_⟩; gi_at_call 19; refine (CallsIn.inRound l (callsIn_wide.2 (frame_compress.calls kc _ _ ps (comp ps) _ HPC.out (Nat.le_refl _) HKC.out))).mono ?_; rintro e w2 ⟨v6, rfl, hr6, hb6⟩; obtain ⟨A6, c6, rfl, hc6, hC6⟩ := Kd.R_reads hr6; obtain ⟨ad6, rfl⟩ := some_addr hC6 hcp; have HC6 := Aside0.mk hC6; have HR6 := Aside0.mk hr6; have HB2 := Aside0.mk hb6; have bO2 : Boxed w2 (w.heap.size + 1) 22 vo := (hb6.block _ bO.lt).trans bO; have HO := Aside0.mk (Kd.R_below HO0.out hb6); have HBB := Aside0.mk (below_then hB hB.size hb6); have HS2 := Aside0.mk hb6.size; clear hr6 hb6 hC6 HO0; have hc2 := bO2.cell; have HT1 := HKC; clear HKC)
      | (refine ⟨trivial, ?_⟩; gi_at_call 20; refine (CallsIn.inRound l (callsIn_wide.2 (frame_put.calls k1 _ _ (fouts pre) ps.length 2 _ w w2 HBB.out HO.out HP1.out))).mono ?_; rintro e w3 ⟨v19, rfl, hr, hb, hk⟩; have HO2 := Aside0.mk hr; have HBB2 := Aside0.mk hb; have HKE1 := Aside0.mk hk; clear hr hb hk HO)
      | (refine ⟨trivial, ?_⟩; gi_at_call 20; refine (CallsIn.inRound l (callsIn_wide.2 (frame_put.calls k2 _ _ o1 (comp ps).length 2 _ w w3 HBB2.out HO2.out HP2.out))).mono ?_; rintro e w4 ⟨v22, rfl, hr, hb, hk⟩; have HO3 := Aside0.mk hr; have HBB3 := Aside0.mk hb; have HKE2 := Aside0.mk hk; clear hr hb hk HO2)
      | (refine ⟨trivial, ?_⟩; gi_at_call 9; refine (CallsIn.inRound l (callsIn_wide.2 (frame_Sum.calls ks _ _ ps (sum ps) _ ?side1 (Nat.le_refl _) HK2.out))).mono ?_; (case side1 => exact Kd.C_below HPC0.out HBB3.out); rintro e w5 ⟨rfl, ⟨nd, rfl⟩⟩; have HBB3d := Aside0.mk (pw_below_drewN HBB3.out nd); have HO3d := Aside0.mk (Kd.R_drewN HO3.out nd); clear HO3)
      | (refine ⟨trivial, ?_⟩; gi_at_call 20; refine (CallsIn.inRound l (callsIn_wide.2 (frame_put.calls k3 _ _ o2 (sum ps) 4 _ w (w4.drewN nd) HBB3d.out HO3d.out HP3.out))).mono ?_; rintro e w6 ⟨v25, rfl, hr, hb, hk⟩; obtain ⟨A25, c25, rfl⟩ := Kd.R_slice hr; have HO4 := Aside0.mk hr; have HBB4 := Aside0.mk hb; have HCH := Aside0.mk (chain3 HKE1.out HKE2.out hk); clear hr hb hk HO3d; have bO6 : Boxed w6 (w.heap.size + 1) 22 vo := (HCH.out.1 _ bO2.lt (fun e => bO.not_row (by decide) HRO.out e.symm)).trans bO2; have hcO6 := bO6.cell; have hfO6 := bO6.frozen; have bO7 := bO6.set (Value.slice A25 o3.length c25); have hcO7 := bO7.cell; have HB6 := Aside0.mk bO6; have HB7 := Aside0.mk bO7; go_must (have HOW7 : Aside0 ((w6.setCell ⟨w.heap.size + 1, 0, none⟩ (.slice A25 o3.length c25)).ownsRow w.heap.size 5 1 (.slice A25 o3.length c25) o3.length (nums .u8 o3)) := Aside0.mk (how7 HO4.out bO6)); go_must (have HCL7 : Aside0 (∀ j u, (nums .u8 (comp ps))[j]? = some u → (w6.setCell ⟨w.heap.size + 1, 0, none⟩ (.slice A25 o3.length c25)).cell? (ad6.add j) = some u) := Aside0.mk (nums_cells (comp ps) (w6.setCell ⟨w.heap.size + 1, 0, none⟩ (.slice A25 o3.length c25)) ad6 (packed_cells HC6.out HR6.out HCH.out.1 HRO.out hO1 hsz (.slice A25 o3.length c25)))); go_must (have HBS7 : Aside0 (w.heap.size ≤ (w6.setCell ⟨w.heap.size + 1, 0, none⟩ (.slice A25 o3.length c25)).heap.size) := Aside0.mk (Nat.le_trans HBB4.out.size (set_size w6 ⟨w.heap.size + 1, 0, none⟩ (.slice A25 o3.length c25)))); clear bO6 bO7)
      | (gi_at_builtin; go_must (refine wpListIn_append_at _ rfl (.tmp 26) (.tmp 27) 22 rfl w.heap.size 5 (.int .u8 0) 1 1 Try.underlying22 info_u8 rfl (by decide) _ o3.length (nums .u8 o3) rfl ?hown ad6 (comp ps).length c6 (nums .u8 (comp ps)) rfl ?hln ?hcl ?h1c ?hmx ?hby ?hbs ?_); go_must (case hown => exact HOW7.out); go_must (case hln => simp [nums]); go_must (case hcl => exact HCL7.out); go_must (case h1c => exact nums_one _); go_must (case hmx => unfold maxLen; omega); go_must (case hby => omega); go_must (case hbs => exact HBS7.out); go_must (intro v8 w8 hown8 hgrow8 hat8; have bO8 : Boxed w8 (w.heap.size + 1) 22 (.slice A25 o3.length c25) := HB7.out.kept hgrow8 (HB7.out.not_row (by decide) HOW7.out); have hcO8 := bO8.cell; have hfO8 := bO8.frozen; have HAT8 := Aside0.mk hat8; have HGR8 := Aside0.mk hgrow8; clear hat8 hgrow8 bO8; obtain ⟨g8, cap8, rfl, _, _⟩ := hown8.form (by omega)))
      | fail)
    have e1 : nums .u8 o3 ++ nums .u8 (comp ps) = nums .u8 (fouts (pre ++ [⟨(ad, ps), hxS, hx1, hx2, hxc⟩])) := by rw [← nums_append, HE.out, HG.out]
    have e2 : o3.length + (comp ps).length = (fouts (pre ++ [⟨(ad, ps), hxS, hx1, hx2, hxc⟩])).length := by rw [HG.out, ← HE.out, List.length_append]
    rw [e1] at hown8
    have hv5 : ∀ k, (Value.slice A25 o3.length c25).ownBlock = some k → vo.ownBlock = some k ∨ w2.heap.size ≤ k := by
      intro k e
      have s3 := HKE1.out.1
      have s4 := HKE2.out.1
      rcases HO4.out.1 k e with ((h | h) | h) | h
      · exact .inl h
      · exact .inr h
      · exact .inr (by omega)
      · exact .inr (by have h' : w4.heap.size ≤ k := h; omega)
    obtain ⟨_, r1, r2, r3, r4, r5, r6⟩ := pack_round HB2.out HCH.out.1 HCH.out.2 HGR8.out hv5 HAT8.out bO HRO.out HOW7.out hown8 hB.size (by omega) w1.heap.size
    have hS2 : KeepsS S W (w8.setCell ⟨w.heap.size + 1, 0, none⟩ (.slice (some ⟨g8, 0, none⟩) (o3.length + (comp ps).length) cap8)) := by
      intro k hk
      have hkB := hSlt k hk
      exact r2 k (by omega) (fun e => by have := HAP.out k e; omega) hk.2
    have hB3 : Below w.heap.size w (w8.setCell ⟨w.heap.size + 1, 0, none⟩ (.slice (some ⟨g8, 0, none⟩) (o3.length + (comp ps).length) cap8)) :=
      ((below_set HBB4.out (by omega)).grown HGR8.out (Nat.le_trans HBB4.out.size (KeepsWalks.setCell w6 _ _).size) (fun k e => own_base (own_of_R5 HO4.out) k e)).setCell (p := ⟨w.heap.size + 1, 0, none⟩) (by simp) _
    refine ⟨r1, hS2, ⟨⟨_, r3, by rw [← e2]; exact r4, fun k e => ?_⟩, hB3⟩, HKS.out.trans hS2, by omega⟩
    rcases r5 k e with h | h
    · exact HAP.out k h
    · omega
  case done =>
    rintro D ys W hD ⟨k, hk1, hk2, hys⟩ ⟨⟨⟨vo, bO, ro, hap⟩, hB⟩, hks, hsz⟩ hK
    have hF : W.heap[w.heap.size]? = some (.cells #[.int .i64 0, .int .i64 0] 29 (0, 0)) := (hks _ ⟨by omega, by omega⟩).trans F0.out
    have hcf0 : W.cell? ⟨w.heap.size, 0, none⟩ = some (.int .i64 0) := (blk_cell hF 0).trans rfl
    have hcf1 : W.cell? ⟨w.heap.size, 1, none⟩ = some (.int .i64 0) := (blk_cell hF 1).trans rfl
    have hff0 : W.frozen? ⟨w.heap.size, 0, none⟩ = false := by simp [World.frozen?, hF]
    have hff1 : W.frozen? ⟨w.heap.size, 1, none⟩ = false := by simp [World.frozen?, hF]
    have HF := Aside0.mk hF
    have HKS := Aside0.mk hks
    have HK1 := Aside0.mk hk1
    have HK2 := Aside0.mk hk2
    have HYS := Aside0.mk hys
    have HKD := Aside0.mk hK
    clear hF hks hk1 hk2 hys hap hK
    have hc := bO.cell
    gi_wp2
    obtain ⟨Wf, hWf⟩ : ∃ Wf, (W.setCell ⟨w.heap.size, 0, none⟩ (.int .i64 0)).setCell ⟨w.heap.size, 1, none⟩ (.int .i64 0) = Wf := ⟨_, rfl⟩
    have hb1 : Wf.heap[w.heap.size]? = some (.cells #[.int .i64 0, .int .i64 0] 29 (0, 0)) := by
      rw [← hWf]
      exact blk_put (cs := #[.int .i64 0, .int .i64 0]) (blk_put (cs := #[.int .i64 0, .int .i64 0]) HF.out 0 _ rfl) 1 _ rfl
    have hg1 : W.grownBy Wf (some w.heap.size) := by
      rw [← hWf]
      refine ⟨rfl, rfl, rfl, Nat.le_trans (set_size W ⟨w.heap.size, 0, none⟩ (.int .i64 0)) (set_size _ _ _), fun i hi hne => ?_⟩
      have hne' : i ≠ w.heap.size := fun e => hne (by rw [e])
      rw [Below.heap_setCell _ ⟨w.heap.size, 1, none⟩ _ i hne', Below.heap_setCell W ⟨w.heap.size, 0, none⟩ _ i hne']
    have hK' : Wf.heap[D]? = some (.deferred (some [])) := by
      refine (hg1.block D (Array.getElem?_eq_some_iff.1 HKD.out).1 (fun e => ?_)).trans HKD.out
      cases e
      have h2 := HKD.out
      rw [HF.out] at h2
      cases h2
    rw [hWf]
    clear hWf
    have nD : w.heap.size ≠ D := by
      intro e
      rw [← e, hb1] at hK'
      cases hK'
    refine ⟨by simp, .inl ⟨_, _, rfl, run_takeDeferred hK', ?_⟩⟩
    have nR : vo.ownBlock = none ∨ vo.ownBlock ≠ some w.heap.size := by
      rcases ro.2 with ⟨rfl, _⟩ | ⟨g, cap, cur, rfl, _, hgb, _⟩
      · exact .inl rfl
      · refine .inr fun e' => ?_
        have : g = w.heap.size := by simpa [Value.ownBlock] using e'
        subst this
        rw [HF.out] at hgb
        cases hgb
    have ro2 : Wf.ownsRow w.heap.size 5 1 vo (fouts ys).length (nums .u8 (fouts ys)) := ro.kept hg1 nR
    have hfr : fouts ys = frames xs := by
      unfold fouts frames
      have h2 := HK1.out
      have h3 := HK2.out
      rw [HYS.out, show k = (xs.length + 1023) / 1024 by omega]
    rw [hfr] at ro2
    have hbD : (Wf.putObj D (.deferred none)).heap[w.heap.size]? = some (.cells #[.int .i64 0, .int .i64 0] 29 (0, 0)) :=
      ((grownBy_putObj' Wf D (.deferred none)).block _ (blk_lt hb1) (fun e => nD (by cases e; rfl))).trans hb1
    refine ⟨_, results_tc rfl _ _ w.heap.size 29 #[.int .i64 0, .int .i64 0] (0, 0) _ rfl hbD Try.underlying29 rfl (by kernel_rfl), vo, rfl, Own5.toR (ownsRow_putObj ro2 _ hK' rfl) _ (fun _ => trivial), ?_⟩
    refine (hB.grown hg1 hB.size (fun j e => by cases e; exact Nat.le_refl _)).grown (grownBy_putObj' Wf D _) (by have := hg1.size; have := hB.size; omega) (fun j e => ?_)
    cases e
    omega
  case stop =>
    rintro D c pre W _ _ h _
    exact h.elim

set_option maxRecDepth 100000 in
set_option maxHeartbeats 8000000 in
theorem pack_many (A : Option Addr) (c : Nat) (xs : List Int) (w : World) (hl : 100000 < xs.length) :
    Calls Try.prog 13 #[.slice A xs.length c] w (PackPost w [] 2 (-1)) := by
  have hl' : decide (100000 < (xs.length : Int)) = true := decide_eq_true (by omega)
  have hbn := blk_new w (.cells #[.int .i64 0, .int .i64 0] 29)
  go_enter Try.func13, Try.ntmps13
  go_wp2
  refine bodyPost_ret (results_tc rfl _ _ w.heap.size 29 #[.int .i64 2, .int .i64 (-1)] (0, 0) _ rfl ?_ Try.underlying29 rfl (by kernel_rfl)) rfl ?_
  · first
      | exact blk_new w _
      | exact blk_put (cs := #[.int .i64 2, .int .i64 0]) (blk_put (cs := #[.int .i64 0, .int .i64 0]) hbn 0 _ rfl) 1 _ rfl
  · refine ⟨_, rfl, Kd.R_nil _ _ _ _ _, ?_⟩
    first
      | exact below_alloc (Below.refl _ _) _
      | exact ((below_alloc (Below.refl _ _) _).setCell (p := ⟨w.heap.size, 0, none⟩) (Nat.le_refl _) _).setCell (p := ⟨w.heap.size, 1, none⟩) (Nat.le_refl _) _

theorem frame_Pack.calls (A0 : Option Addr) (c0 : Nat) (l0 : List Int) (r1 : List Int) (r2 : Int) (r3 : Int) (w : World) (hr0 : Kd.C (Kd.int .u8) w A0 l0.length l0) (hc0 : l0.length ≤ c0) (h : frame_Pack.f l0 = some (r1, r2, r3)) :
    Calls Try.prog 13 #[.slice A0 l0.length c0] w fun e w' => ∃ v0_ : Value, e = .returned (.tuple #[v0_, .agg #[.int .i64 r2, .int .i64 r3]]) ∧ Kd.R (Kd.int .u8) 5 w' w.heap.size (fun _ => True) v0_ r1 ∧ Below w.heap.size w w' := by
  unfold frame_Pack.f at h
  by_cases hl : (l0.length : Int) > 100000
  · rw [if_pos hl] at h
    simp only [Option.some.injEq, Prod.mk.injEq] at h
    obtain ⟨rfl, rfl, rfl⟩ := h
    exact pack_many A0 c0 l0 w (by omega)
  · rw [if_neg hl] at h
    simp only [Option.some.injEq, Prod.mk.injEq] at h
    obtain ⟨rfl, rfl, rfl⟩ := h
    exact callsIn_wide.1 (pack_in 4 (by omega) A0 c0 l0 w hr0 hc0 (by omega))
#print axioms frame_Pack.calls
end Go.Proofs.Yteljmmdbgnjflaa.PF
