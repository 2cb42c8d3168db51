/- The iterator that slices.Chunk hands back, at []byte: it yields the chunks of the slice, in order; under the condition that a round of the loop leaves the slice's row and the two captured boxes as they lie. Words for the contracts by hand: an append inside a fence that says where the row lies; bytes that a row owns. The closure 'flush' of frame.compress: it appends the runs of the literals to the output and empties the literals; under the condition that the two boxes and their rows are the call's own and apart. -/
import Derived.RangeFuncNested
import Derived.RangeFuncBound
import Derived.RangeFuncCalls
import Derived.RangeFuncLeaves
import Derived.RangeFuncBox
import Derived.Shelf.Abstract
import Derived.Shelf.RegionOpen
import Derived.WalkKit
import Derived.OwnWalkIn
import Derived.TacticsInMore
import Derived.LoopNIn
import Derived.LoopIn
import Derived.Sort.QuietIn
import Derived.Test.YteljmmdbgnjflaaProg
import Derived.Test.YteljmmdbgnjflaaWMore
import Derived.Maps.AppendAt
import Derived.Deep.DeepMust
set_option linter.unusedVariables false
set_option linter.unusedSimpArgs false
namespace Go.Proofs.Yteljmmdbgnjflaa.H
open Go.RowKit Go.Shelf Go.Proofs.YteljmmdbgnjflaaW.PrintWords Go.Proofs.YteljmmdbgnjflaaW.PrintLast Go.Proofs.YteljmmdbgnjflaaW.PrintMore
attribute [local go_sem] Oper.semAt_some
attribute [local go_sem] max2_int min2_int max_two min_two

/-- The blocks of S lie as they lay. -/
def KeepsS (S : Nat → Prop) (w w' : World) : Prop := ∀ k, S k → w'.heap[k]? = w.heap[k]?
theorem KeepsS.refl (S : Nat → Prop) (w : World) : KeepsS S w w := fun _ _ => rfl
theorem KeepsS.trans {S : Nat → Prop} {a b c : World} (h : KeepsS S a b) (k : KeepsS S b c) : KeepsS S a c := fun i hi => (k i hi).trans (h i hi)
theorem KeepsS.drewN {S : Nat → Prop} {a b : World} (h : KeepsS S a b) (n : Nat) : KeepsS S a (b.drewN n) := h
theorem KeepsS.cell {S : Nat → Prop} {a b : World} (h : KeepsS S a b) {p : Addr} (hp : S p.block) {v : Value} (hc : a.cell? p = some v) : b.cell? p = some v := (World.cell?_of_block (h p.block hp)).trans hc

/-- A piece of a row that lies in w, in a block of S. -/
def Part (T : Nat → Prop) (w : World) (m : Nat) : Type := { p : Addr × List Int // T p.1.block ∧ 1 ≤ p.2.length ∧ p.2.length ≤ m ∧ ∀ j, j < p.2.length → w.cell? (p.1.add j) = some (.int .u8 (p.2.getD j 0)) }
def pieces (xs : List Int) (m k : Nat) : List (List Int) := (List.range k).map fun j => (xs.drop (j * m)).take m
theorem pieces_succ (xs : List Int) (m k : Nat) : pieces xs m (k + 1) = pieces xs m k ++ [(xs.drop (k * m)).take m] := by simp [pieces, List.range_succ]

theorem part_of {T : Nat → Prop} {w : World} {A : Option Addr} {xs : List Int} (h : Kd.C (Kd.int .u8) w A xs.length xs) (hS : ∀ ad, A = some ad → T ad.block) (m i : Nat) (hm : 1 ≤ m) (hi : i < xs.length) :
    ∃ ad, A = some ad ∧ ∃ p : Part T w m, p.1.1 = ad.add i ∧ p.1.2 = (xs.drop i).take m := by
  obtain ⟨ad, e, _⟩ := Kd.at_int h (i : Int) (by omega) (by omega)
  have hl : ((xs.drop i).take m).length = min m (xs.length - i) := by simp
  refine ⟨ad, e, ⟨(ad.add i, (xs.drop i).take m), ?_, ?_, ?_, ?_⟩, rfl, rfl⟩
  · show T (ad.add i).block
    have : (ad.add i).block = ad.block := by unfold Addr.add; split <;> rfl
    rw [this]; exact hS _ e
  · show 1 ≤ ((xs.drop i).take m).length
    rw [hl]; omega
  · show ((xs.drop i).take m).length ≤ m
    rw [hl]; omega
  · intro j hj
    have hj' : j < min m (xs.length - i) := by rw [← hl]; exact hj
    obtain ⟨ad', e', hc⟩ := Kd.at_int h ((i + j : Nat) : Int) (by omega) (by omega)
    rw [e] at e'; cases e'
    show w.cell? ((ad.add i).add j) = _
    have ea : (ad.add i).add j = ad.add (i + j) := by
      unfold Addr.add
      by_cases h1 : i = 0 <;> by_cases h2 : j = 0 <;> simp [h1, h2, Nat.add_assoc]
    rw [ea]
    have hc' : w.cell? (ad.add (i + j)) = some (.int .u8 (rd xs ((i + j : Nat) : Int))) := by rw [Int.toNat_natCast] at hc; exact hc
    rw [hc']
    have : rd xs ((i + j : Nat) : Int) = ((xs.drop i).take m).getD j 0 := by
      unfold rd
      rw [Int.toNat_natCast]
      simp only [List.getD_eq_getElem?_getD]
      rw [List.getElem?_take_of_lt (by omega), List.getElem?_drop]
    rw [this]

set_option maxRecDepth 100000 in
set_option maxHeartbeats 2000000 in
theorem chunk1_in (n : Nat) (hn : 1 ≤ n) (l Bs Bn cap m : Nat) (A : Option Addr) (S T : Nat → Prop) (xs : List Int) (w W : World)
    (hm : 1 ≤ m) (hm2 : m ≤ 1048576) (hcap : xs.length ≤ cap) (hsz : xs.length ≤ 140737488355328)
    (hSs : S Bs) (hSn : S Bn) (hSA : 0 < xs.length → ∀ ad, A = some ad → T ad.block) (hC : Kd.C (Kd.int .u8) w A xs.length xs) (J Jx : List (Part T w m) → World → Prop)
    (hY : ∀ pre x W1, J pre W1 → pre.length < xs.length → YieldAt Fence.wide (n - 1) Try.prog l #[Value.slice (some x.1.1) x.1.2.length x.1.2.length] W1 fun e W' =>
      (e = .returned (.bool true) ∧ J (pre ++ [x]) W' ∧ KeepsS S W1 W') ∨ (e = .returned (.bool false) ∧ Jx (pre ++ [x]) W'))
    (hJd : ∀ pre W1 k, J pre W1 → J pre (W1.drewN k))
    (hBs : W.cell? ⟨Bs, 0, none⟩ = some (.slice A xs.length cap)) (hBn : W.cell? ⟨Bn, 0, none⟩ = some (.int .i64 m)) (h0 : J [] W) :
    CallsIn Fence.wide n Try.prog 23 #[.func (.yield l) #[] #[], .pointer (some ⟨Bs, 0, none⟩), .pointer (some ⟨Bn, 0, none⟩)] W fun e W' => (∃ v, e = .returned v) ∧
      ((∃ ys : List (Part T w m), (∃ k, xs.length ≤ k * m ∧ (k = 0 ∨ (k - 1) * m < xs.length) ∧ ys.map (fun y => y.1.2) = pieces xs m k) ∧ J ys W') ∨ (∃ pre, True ∧ Jx pre W')) := by
  obtain ⟨i0, hi0, hz0, hz1, hz2⟩ := info_parts (show (Try.prog.info? 5).map (fun i => (i.zero, i.size, i.bytes)) = some (some (.int .u8 0), 1, 1) by kernel_rfl)
  refine callsIn_of_wp Try.func23 rfl trivial ?_ rfl
  simp only [Try.ntmps23, List.size_toArray, List.length_cons, List.length_nil, Nat.reduceAdd, Nat.reduceSub, Array.replicate_succ, Array.replicate_zero, List.push_toArray, List.append_toArray, List.nil_append, List.cons_append]
  gi_wp2
  gi_loopw [4, 5] (fun i e wr => ∃ (q k : Nat) (ys : List (Part T w m)), i = .int .i64 (q : Int) ∧ Aside0 (q = k * m) ∧ Aside0 (k = 0 ∨ (k - 1) * m < xs.length) ∧ Aside0 (ys.map (fun y => y.1.2) = pieces xs m k) ∧ J ys wr ∧ Aside0 (KeepsS S W wr))
    (fun i _ _ => xs.length + m - (intOf i).toNat)
  case atStart => exact ⟨0, 0, [], rfl, ⟨by simp⟩, ⟨.inl rfl⟩, ⟨by simp [pieces]⟩, h0, ⟨KeepsS.refl _ _⟩⟩
  case round =>
    obtain ⟨q, k, ys, rfl, hq, hk0, hys, hJs, hkp⟩ := hrel
    have hcs : wr.cell? ⟨Bs, 0, none⟩ = some (.slice A xs.length cap) := hkp.out.cell (p := ⟨Bs, 0, none⟩) hSs hBs
    have hcn : wr.cell? ⟨Bn, 0, none⟩ = some (.int .i64 m) := hkp.out.cell (p := ⟨Bn, 0, none⟩) hSn hBn
    by_cases hlt : q < xs.length
    · obtain ⟨ad, hA, p, hp1, hp2⟩ := part_of hC (hSA (by omega)) m q hm hlt
      have hpl : p.1.2.length = min m (xs.length - q) := by rw [hp2]; simp
      have hlen : ys.length < xs.length := by
        have h1 : ys.length = k := by have := congrArg List.length hys.out; simpa [pieces] using this
        have h2 := hq.out
        have h3 : k ≤ k * m := Nat.le_mul_of_pos_right k (by omega)
        omega
      have hnext : ∀ W3 : World, J (ys ++ [p]) W3 → KeepsS S wr W3 → (q + m = (k + 1) * m) ∧ (k + 1 = 0 ∨ (k + 1 - 1) * m < xs.length) ∧ (ys ++ [p]).map (fun y => y.1.2) = pieces xs m (k + 1) := by
        intro W3 _ _
        have h2 := hq.out
        refine ⟨by rw [Nat.add_mul]; omega, .inr (by rw [Nat.add_sub_cancel]; omega), ?_⟩
        rw [List.map_append, hys.out, pieces_succ, List.map_cons, List.map_nil, hp2, ← h2]
      by_cases hmin : q + m ≤ xs.length
      · have hpl2 : p.1.2.length = m := by omega
        have Hpl := Aside0.mk hpl2
        clear hpl hpl2
        have HLEN := Aside0.mk hlen
        clear hlen hp2
        have HP1 := Aside0.mk hp1
        clear hp1
        have HN := Aside0.mk hnext
        clear hnext
        gi_wp2
        gi_quiet (fail)
        obtain ⟨fn, tmps, assign, body, hy, hR⟩ := hY ys p (wr.drewN nq) (hJd _ _ _ hJs) HLEN.out
        rw [Hpl.out, HP1.out] at hy
        gi_wp2
        refine hR.mono ?_
        rintro e W3 (⟨rfl, hJ3, hk3⟩ | ⟨rfl, hJx3⟩)
        · have hcn3 : W3.cell? ⟨Bn, 0, none⟩ = some (.int .i64 m) := hk3.cell (p := ⟨Bn, 0, none⟩) hSn hcn
          gi_wp2
          go_roundw
          case rel =>
            obtain ⟨e1, e2, e3⟩ := HN.out W3 hJ3 hk3
            exact ⟨q + m, k + 1, ys ++ [p], by simp, ⟨e1⟩, ⟨e2⟩, ⟨e3⟩, hJ3, ⟨hkp.out.trans hk3⟩⟩
          case measure => simp [intOf]; omega
        · gi_wp2
          refine bodyPost_ret (results_none rfl _ _ _) rfl ?_
          exact ⟨⟨_, rfl⟩, .inr ⟨_, trivial, hJx3⟩⟩
      · have hpl2 : p.1.2.length = xs.length - q := by omega
        have Hpl := Aside0.mk hpl2
        clear hpl hpl2
        have HLEN := Aside0.mk hlen
        clear hlen hp2
        have HP1 := Aside0.mk hp1
        clear hp1
        have HN := Aside0.mk hnext
        clear hnext
        gi_wp2
        gi_quiet (fail)
        obtain ⟨fn, tmps, assign, body, hy, hR⟩ := hY ys p (wr.drewN nq) (hJd _ _ _ hJs) HLEN.out
        rw [Hpl.out, HP1.out] at hy
        gi_wp2
        refine hR.mono ?_
        rintro e W3 (⟨rfl, hJ3, hk3⟩ | ⟨rfl, hJx3⟩)
        · have hcn3 : W3.cell? ⟨Bn, 0, none⟩ = some (.int .i64 m) := hk3.cell (p := ⟨Bn, 0, none⟩) hSn hcn
          gi_wp2
          go_roundw
          case rel =>
            obtain ⟨e1, e2, e3⟩ := HN.out W3 hJ3 hk3
            exact ⟨q + m, k + 1, ys ++ [p], by simp, ⟨e1⟩, ⟨e2⟩, ⟨e3⟩, hJ3, ⟨hkp.out.trans hk3⟩⟩
          case measure => simp [intOf]; omega
        · gi_wp2
          refine bodyPost_ret (results_none rfl _ _ _) rfl ?_
          exact ⟨⟨_, rfl⟩, .inr ⟨_, trivial, hJx3⟩⟩
    · gi_wp2
      go_end0
      refine ⟨⟨_, rfl⟩, .inl ⟨ys, ⟨k, ?_, hk0.out, hys.out⟩, hJs⟩⟩
      have := hq.out
      omega

/-- What the iterator of slices.Chunk(s, m) gives: the pieces, in order. -/
def Chunked (T : Nat → Prop) (w : World) (m : Nat) (xs : List Int) (ys : List (Part T w m)) : Prop := ∃ k, xs.length ≤ k * m ∧ (k = 0 ∨ (k - 1) * m < xs.length) ∧ ys.map (fun y => y.1.2) = pieces xs m k

theorem chunk_stops (n : Nat) (hn : 1 ≤ n) (Bs Bn cap m : Nat) (A : Option Addr) (S T : Nat → Prop) (xs : List Int) (w : World)
    (hm : 1 ≤ m) (hm2 : m ≤ 1048576) (hcap : xs.length ≤ cap) (hsz : xs.length ≤ 140737488355328)
    (hSs : S Bs) (hSn : S Bn) (hSA : 0 < xs.length → ∀ ad, A = some ad → T ad.block) (hC : Kd.C (Kd.int .u8) w A xs.length xs)
    (hBs : w.cell? ⟨Bs, 0, none⟩ = some (.slice A xs.length cap)) (hBn : w.cell? ⟨Bn, 0, none⟩ = some (.int .i64 m)) :
    SeqStopsK Fence.wide n Try.prog 23 #[.pointer (some ⟨Bs, 0, none⟩), .pointer (some ⟨Bn, 0, none⟩)] (fun x : Part T w m => #[Value.slice (some x.1.1) x.1.2.length x.1.2.length]) (KeepsS S)
      (Chunked T w m xs) (fun _ => True) xs.length w := fun l J Jx W hW hJ _ hY h0 =>
  chunk1_in n hn l Bs Bn cap m A S T xs w W hm hm2 hcap hsz hSs hSn hSA hC J Jx hY
    (fun pre W1 k h => hJ pre W1 _ none h ⟨rfl, rfl, rfl, Nat.le_refl _, fun _ _ _ => rfl⟩ (fun r e => by cases e))
    (pw_cell_below hW hBs) (pw_cell_below hW hBn) h0

set_option maxHeartbeats 1000000 in
/-- slices.Chunk(s, m): both arguments are boxed; the function value captures the boxes. -/
theorem chunk_in (n : Nat) (a : Option Addr) (len cap : Nat) (m : Int) (hm : 1 ≤ m) (w : World) :
    CallsIn Fence.wide n Try.prog 18 #[.slice a len cap, .int .i64 m] w fun e w' => e = .returned (.func (.func 23) #[] #[.pointer (some ⟨w.heap.size, 0, none⟩), .pointer (some ⟨w.heap.size + 1, 0, none⟩)]) ∧
      w' = (w.alloc (.cells #[.slice a len cap] 22)).alloc (.cells #[.int .i64 m] 3) := by
  refine callsIn_of_wp Try.func18 rfl trivial ?_ rfl
  simp only [Try.ntmps18, List.size_toArray, List.length_cons, List.length_nil, Nat.reduceAdd, Nat.reduceSub, Array.replicate_succ, Array.replicate_zero, List.push_toArray, List.append_toArray, List.nil_append, List.cons_append]
  have hm' : ¬ m < 1 := by omega
  gi_wp2
  go_ret
  exact ⟨rfl, rfl⟩
end Go.Proofs.Yteljmmdbgnjflaa.H

namespace Go.Proofs.Yteljmmdbgnjflaa.H
open Go.RowKit Go.Proofs.YteljmmdbgnjflaaW.PrintWords Go.Proofs.YteljmmdbgnjflaaW.PrintLast Go.Proofs.YteljmmdbgnjflaaW.PrintMore

theorem wpListIn_append_at {F : Fence} {n : Nat} {P : Program} (w : World) {ops : Array Oper} {rest : List Oper} {o : Oper} {a : Act} {Q : Exit → Act → World → Prop}
    (hg : o.guard = none) (s x : Operand) (t : TypeId) (hop : o.op = Op.call { callee := Callee.builtin Builtin.append, args := #[s, x], argTypes := #[t, t] })
    (base : Nat) (e : TypeId) (z : Value) (size bytes : Nat) (h1 : P.underlying t = some (.slice e)) (hinfo : (P.info? e).map (fun i => (i.zero, i.size, i.bytes)) = some (some z, size, bytes)) (h6 : z.cells.size = size) (h7 : 0 < size)
    (v : Value) (k : Nat) (xs : List Value) (hs : a.eval s = v) (hown : w.ownsRow base e size v k xs) (ad : Addr) (m c : Nat) (news : List Value) (hx : a.eval x = .slice (some ad) m c) (hn : news.length = m * size)
    (hc : ∀ j u, news[j]? = some u → w.cell? (ad.add j) = some u) (h1c : ∀ u ∈ news, u.oneCell' = true) (b1 : k + m ≤ maxLen) (b2 : (k + m) * bytes ≤ 140737488355328) (b3 : base ≤ w.heap.size)
    (hK : ∀ v' w', w'.ownsRow base e size v' (k + m) (xs ++ news) → w.grownBy w' v.ownBlock → (v'.ownBlock = v.ownBlock ∨ v'.ownBlock = some w.heap.size) → wpListIn F n P ops Q rest (a.put o.dst v') w') :
    wpListIn F n P ops Q (o :: rest) a w := by
  refine wpListIn_plain hg fun K hK' => ?_
  obtain ⟨i, hi, hz, hz1, hz2⟩ := info_parts hinfo
  obtain ⟨v', w', hrun, r1, r2, _, r4⟩ := run_append_own_at (P := P) w base t o.type e i z size bytes h1 hi hz hz1 hz2 h6 h7 v k xs hown ad m c news hn hc h1c b1 b2 b3
  unfold Oper.wpIn
  refine ⟨?_, ?_⟩
  · simp [Oper.about, hop, resolve, Target.leads, Sem.run_pure]
  · rw [Oper.semAt_plain F _ _ (by rw [hop]; intro c hc'; cases hc')]
    simp [execOp, hop, resolve, invoke, builtin, hs, hx, hrun, Result.andThen]
    exact hK' _ _ (hK v' w' r1 r2 r4)

/-- v owns a row of bytes that holds xs. -/
def Own5 (W : World) (base : Nat) (v : Value) (xs : List Int) : Prop := W.ownsRow base 5 1 v xs.length (nums .u8 xs)
theorem Own5.nil (W : World) (base : Nat) : Own5 W base (.slice none 0 0) [] := own_nil _ _ _ _
theorem Own5.reads {W : World} {base : Nat} {v : Value} {xs : List Int} (h : Own5 W base v xs) : ∃ A c, v = .slice A xs.length c ∧ xs.length ≤ c ∧ Kd.C (Kd.int .u8) W A xs.length xs := by
  obtain ⟨A, c, e, h1, h2⟩ := own_reads_of_le (enc := Value.int .u8) (d := 0) h
  exact ⟨A, c, e, h1, Kd.C_of_reads h2⟩
theorem Own5.toR {W : World} {base : Nat} {v : Value} {xs : List Int} (h : Own5 W base v xs) (ok : Nat → Prop) (hok : ∀ k, ok k) : Kd.R (Kd.int .u8) 5 W base ok v xs := Kd.R_of_own h (fun k _ => hok k)
theorem nums_cells (xs : List Int) (W : World) (ad : Addr) (h : ∀ j, j < xs.length → W.cell? (ad.add j) = some (.int .u8 (xs.getD j 0))) : ∀ j u, (nums .u8 xs)[j]? = some u → W.cell? (ad.add j) = some u := by
  intro j u hu
  have hj : j < xs.length := by have := (List.getElem?_eq_some_iff.1 hu).1; simpa [nums] using this
  rw [h j hj]
  simp only [nums, List.getElem?_map, Option.map_eq_some_iff] at hu
  obtain ⟨a, ha, rfl⟩ := hu
  simp [List.getD_eq_getElem?_getD, ha]
theorem nums_one (xs : List Int) : ∀ u ∈ nums .u8 xs, u.oneCell' = true := by
  intro u hu
  simp only [nums, List.mem_map] at hu
  obtain ⟨a, _, rfl⟩ := hu
  rfl
end Go.Proofs.Yteljmmdbgnjflaa.H

namespace Go.Proofs.Yteljmmdbgnjflaa.H
open Go.RowKit Go.Shelf Go.Proofs.YteljmmdbgnjflaaW.PrintWords Go.Proofs.YteljmmdbgnjflaaW.PrintLast Go.Proofs.YteljmmdbgnjflaaW.PrintMore
attribute [local go_sem] Oper.semAt_some

/-- A run: its length minus 1, and its bytes. -/
def runOf (p : List Int) : List Int := (((p.length : Int) - 1) % 256) :: p
def runs (ps : List (List Int)) : List Int := ps.flatMap runOf
theorem runs_snoc (ps : List (List Int)) (p : List Int) : runs (ps ++ [p]) = runs ps ++ runOf p := by simp [runs]
theorem runOf_length (p : List Int) : (runOf p).length = p.length + 1 := by simp [runOf]

/-- The output behind the pieces. -/
def gout {T : Nat → Prop} {w : World} {m : Nat} (outs : List Int) (pre : List (Part T w m)) : List Int := outs ++ runs (pre.map fun y => y.1.2)
theorem gout_snoc {T : Nat → Prop} {w : World} {m : Nat} (outs : List Int) (pre : List (Part T w m)) (x : Part T w m) : gout outs (pre ++ [x]) = gout outs pre ++ runOf x.1.2 := by simp [gout, runs_snoc]

theorem gout_le {T : Nat → Prop} {w : World} (outs : List Int) (pre : List (Part T w 128)) : (gout outs pre).length ≤ outs.length + 129 * pre.length := by
  unfold gout
  rw [List.length_append]
  have : (runs (pre.map fun y => y.1.2)).length ≤ 129 * pre.length := by
    induction pre with
    | nil => simp [runs]
    | cons x pre ih =>
      have hx := x.2.2.2.1
      simp only [runs, List.map_cons, List.flatMap_cons, List.length_append, runOf_length, List.length_cons] at ih ⊢
      omega
  omega
theorem KeepsS.ownFrom {β : Type} {S : Nat → Prop} {w : World} {B : Nat} (hS : ∀ k, S k → k < B) (hB : B ≤ w.heap.size) : OwnFrom B (fun (_ : β) W => KeepsS S w W ∧ w.heap.size ≤ W.heap.size) := by
  rintro s W W' row ⟨h, hsz⟩ hg hr
  refine ⟨fun k hk => ?_, Nat.le_trans hsz hg.size⟩
  have hkB := hS k hk
  exact (hg.block k (by omega) (fun e => by have := (hr k e.symm).1; omega)).trans (h k hk)

theorem two_appends {W w2 w3 : World} {o : Obj} {vo v1 u : Value} {O : Nat} (G1 : (W.alloc o).grownBy w2 vo.ownBlock) (G2 : w2.grownBy w3 v1.ownBlock) (hat1 : v1.ownBlock = vo.ownBlock ∨ v1.ownBlock = some (W.alloc o).heap.size)
    {k : Nat} (hk : k < W.heap.size) (hne : vo.ownBlock ≠ some k) (hO : k ≠ O) : (w3.setCell ⟨O, 0, none⟩ u).heap[k]? = W.heap[k]? := by
  have hs1 := G1.size
  rw [World.size_alloc] at hs1
  have hv1 : some k ≠ v1.ownBlock := by
    rcases hat1 with e | e <;> rw [e]
    · exact fun e' => hne e'.symm
    · rw [World.size_alloc]; intro e'; injection e' with e'; omega
  rw [Below.heap_setCell w3 ⟨O, 0, none⟩ u k hO, G2.block k (by omega) hv1, G1.block k (by rw [World.size_alloc]; omega) (fun e => hne e.symm)]
  exact Below.heap_alloc W o k hk
theorem flush_round {W w2 w3 : World} {o : Obj} {vo v1 v2 : Value} {O n₀ : Nat} {xs ys zs : List Int} {q q2 : Nat} (G1 : (W.alloc o).grownBy w2 vo.ownBlock) (G2 : w2.grownBy w3 v1.ownBlock) (hat1 : v1.ownBlock = vo.ownBlock ∨ v1.ownBlock = some (W.alloc o).heap.size)
    (hat2 : v2.ownBlock = v1.ownBlock ∨ v2.ownBlock = some w2.heap.size) (bO : Boxed W O 22 vo) (bO3 : Boxed w3 O 22 vo) (ro : W.ownsRow n₀ 5 1 vo xs.length (nums .u8 xs)) (hown1 : w2.ownsRow n₀ 5 1 v1 q (nums .u8 ys)) (hown2 : w3.ownsRow n₀ 5 1 v2 q2 (nums .u8 zs)) (hn : n₀ ≤ W.heap.size) (hO : n₀ ≤ O) (B : Nat) :
    KeepsFrom B W (w3.setCell ⟨O, 0, none⟩ v2) ∧ (∀ k, k < W.heap.size → vo.ownBlock ≠ some k → k ≠ O → (w3.setCell ⟨O, 0, none⟩ v2).heap[k]? = W.heap[k]?) ∧ Boxed (w3.setCell ⟨O, 0, none⟩ v2) O 22 v2 ∧
      (w3.setCell ⟨O, 0, none⟩ v2).ownsRow n₀ 5 1 v2 q2 (nums .u8 zs) ∧ (∀ k, k < W.heap.size → vo.ownBlock ≠ some k → v2.ownBlock ≠ some k) ∧ Below n₀ W (w3.setCell ⟨O, 0, none⟩ v2) ∧ W.heap.size ≤ (w3.setCell ⟨O, 0, none⟩ v2).heap.size := by
  have hs1 := G1.size
  rw [World.size_alloc] at hs1
  have hs2 := G2.size
  have hsz : W.heap.size ≤ (w3.setCell ⟨O, 0, none⟩ v2).heap.size := by
    have := (KeepsWalks.setCell w3 ⟨O, 0, none⟩ v2).size
    omega
  refine ⟨⟨hsz, ?_⟩, fun k hk hne hkO => two_appends G1 G2 hat1 hk hne hkO, bO3.set v2, hown2.kept (grownBy_setCell' w3 O v2) (.inr (bO3.not_row (by decide) hown2).symm), ?_, ?_, hsz⟩
  · intro k ob _ hob hcells
    have hk := (Array.getElem?_eq_some_iff.1 hob).1
    rw [two_appends G1 G2 hat1 hk ?_ ?_]
    · exact hob
    · intro e
      obtain ⟨cells, hc⟩ := own_typed ro k e
      rw [hob] at hc; cases hc; cases hcells
    · rintro rfl
      rw [show W.heap[k]? = _ from bO] at hob; cases hob; cases hcells
  · intro k hk hne e
    rcases hat2 with e2 | e2 <;> rw [e2] at e
    · rcases hat1 with e1 | e1 <;> rw [e1] at e
      · exact hne e
      · rw [World.size_alloc] at e; injection e with e; omega
    · injection e with e; omega
  · refine ((((Below.refl n₀ W).alloc hn o).grown G1 (by rw [World.size_alloc]; omega) (fun k e => own_base ro k e)).grown G2 (by omega) (fun k e => own_base hown1 k e)).setCell (p := ⟨O, 0, none⟩) hO v2

theorem info_u8 : (Try.prog.info? 5).map (fun i => (i.zero, i.size, i.bytes)) = some (some (.int .u8 0), 1, 1) := by kernel_rfl
/-- What flush leaves: the literals' box is empty, the output's box holds the longer row. -/
def FlushPost (w0 : World) (n₀ L O : Nat) (lits outs : List Int) (e : Ending) (W' : World) : Prop := e = .returned (.tuple #[]) ∧ Boxed W' L 22 (.slice none 0 0) ∧
      (∃ vo' k, Boxed W' O 22 vo' ∧ lits.length ≤ k * 128 ∧ (k = 0 ∨ (k - 1) * 128 < lits.length) ∧ Own5 W' n₀ vo' (outs ++ runs (pieces lits 128 k))) ∧ Below n₀ w0 W'
set_option maxRecDepth 100000 in
set_option maxHeartbeats 4000000 in
theorem flush_in (n : Nat) (hn : 3 ≤ n) (w0 w : World) (L O : Nat) (vl vo : Value) (lits outs : List Int) (n₀ : Nat) (hn₀ : n₀ ≤ w.heap.size) (hn0 : n₀ ≤ w0.heap.size) (hLO : L ≠ O) (hL : n₀ ≤ L) (hO : n₀ ≤ O)
    (bL : Boxed w L 22 vl) (bO : Boxed w O 22 vo) (rl : Own5 w n₀ vl lits) (ro : Own5 w n₀ vo outs) (hap : ∀ k, vl.ownBlock = some k → vo.ownBlock ≠ some k) (hB0 : Below n₀ w0 w)
    (hlim : outs.length + 130 * lits.length + 200 < 140737488355328) :
    CallsIn Fence.wide n Try.prog 24 #[.pointer (some ⟨L, 0, none⟩), .pointer (some ⟨O, 0, none⟩)] w (FlushPost w0 n₀ L O lits outs) := by
  have h1 : 1 ≤ n := by omega
  obtain ⟨A, c, rfl, hlc, hCl⟩ : ∃ A c, vl = .slice A lits.length c ∧ lits.length ≤ c ∧ Kd.C (Kd.int .u8) w A lits.length lits := by
    obtain ⟨A, c, e, h1, h2⟩ := own_reads_of_le (enc := Value.int .u8) (d := 0) rl
    exact ⟨A, c, e, h1, Kd.C_of_reads h2⟩
  have hcL := bL.cell
  refine callsIn_of_wp_marks Try.func24 rfl trivial ?_ rfl
  simp only [Try.ntmps24, List.size_toArray, List.length_cons, List.length_nil, Nat.reduceAdd, Nat.reduceSub, Array.replicate_succ, Array.replicate_zero, List.push_toArray, List.append_toArray, List.nil_append, List.cons_append]
  gi_wp2_with (refine ⟨trivial, ?_⟩; gi_at_call 18; refine (chunk_in (n - 1) _ _ _ _ (by omega) _).mono ?_; rintro e w' ⟨rfl, rfl⟩)
  obtain ⟨w1, hw1⟩ : ∃ w1, (w.alloc (.cells #[.slice A lits.length c] 22)).alloc (.cells #[.int .i64 (128 : Nat)] 3) = w1 := ⟨_, rfl⟩
  have hsz1 : w1.heap.size = w.heap.size + 2 := by rw [← hw1]; simp
  have hbw : Below w.heap.size w w1 := by rw [← hw1]; exact ((Below.refl _ w).alloc (Nat.le_refl _) _).alloc (by simp) _
  have hBs : w1.cell? ⟨w.heap.size, 0, none⟩ = some (.slice A lits.length c) := by rw [← hw1]; exact ((Boxed.new w _ _).alloc _).cell
  have hBn : w1.cell? ⟨w.heap.size + 1, 0, none⟩ = some (.int .i64 (128 : Nat)) := by
    rw [← hw1]
    have := (Boxed.new (w.alloc (.cells #[.slice A lits.length c] 22)) 3 (.int .i64 (128 : Nat))).cell
    rwa [World.size_alloc] at this
  have e1 : (w.alloc (.cells #[.slice A lits.length c] 22)).alloc (.cells #[.int .i64 128] 3) = w1 := hw1
  rw [e1]
  have bO1 : Boxed w1 O 22 vo := by rw [← hw1]; exact (bO.alloc _).alloc _
  have bL1 : Boxed w1 L 22 (.slice A lits.length c) := by rw [← hw1]; exact (bL.alloc _).alloc _
  have bBs : Boxed w1 w.heap.size 22 (.slice A lits.length c) := by rw [← hw1]; exact (Boxed.new w _ _).alloc _
  have bBn : Boxed w1 (w.heap.size + 1) 3 (.int .i64 (128 : Nat)) := by
    rw [← hw1]
    have := Boxed.new (w.alloc (.cells #[.slice A lits.length c] 22)) 3 (.int .i64 (128 : Nat))
    rwa [World.size_alloc] at this
  clear hw1 e1
  have hsz1' : w.heap.size + 2 ≤ w1.heap.size := by omega
  have hsz1b : w1.heap.size ≤ w.heap.size + 2 := by omega
  clear hsz1
  let S : Nat → Prop := fun k => k = w.heap.size ∨ k = w.heap.size + 1 ∨ k = L ∨ (Value.slice A lits.length c).ownBlock = some k
  have hSlt : ∀ k, S k → k < w1.heap.size := by
    rintro k (rfl | rfl | rfl | hk)
    · omega
    · omega
    · have := bL.lt; omega
    · have := own_lt rl k hk; omega
  have hSA : ∀ ad, A = some ad → (Value.slice A lits.length c).ownBlock = some ad.block := by
    rintro ad rfl
    simp [Value.ownBlock]
  have hC1 : Kd.C (Kd.int .u8) w1 A lits.length lits := Kd.C_below hCl hbw
  refine wpIn_rangeFunc_ownG rfl h1 (gf := 23) (lb := #[.pointer (some ⟨w.heap.size, 0, none⟩), .pointer (some ⟨w.heap.size + 1, 0, none⟩)]) rfl trivial (enters_of Try.func23 (by kernel_rfl) rfl)
    (chunk_stops (n - 1) (by omega) w.heap.size (w.heap.size + 1) c 128 A S (fun k => (Value.slice A lits.length c).ownBlock = some k) lits w1 (by omega) (by omega) hlc (by omega) (.inl rfl) (.inr (.inl rfl)) (fun _ => hSA) hC1 hBs hBn)
    (fun h k => h.trans k) (fun W l o o' hl ho _ _ k hk => World.putObj_heap_other (by have := hSlt k hk; omega)) (Below.refl _ _) (fun _ => rfl)
    (fun pre W => ((∃ vo', Boxed W O 22 vo' ∧ W.ownsRow n₀ 5 1 vo' (gout outs pre).length (nums .u8 (gout outs pre)) ∧ (∀ k, (Value.slice A lits.length c).ownBlock = some k → vo'.ownBlock ≠ some k)) ∧ Below n₀ w0 W) ∧ (KeepsS S w1 W ∧ w1.heap.size ≤ W.heap.size))
    (fun _ _ _ => False)
    (OwnFrom.and (OwnFrom.and (Own.from (holdsRow_own n₀ O 22 5 1 (fun pre => (gout outs pre).length) (fun pre => nums .u8 (gout outs pre)) (fun pre v => ∀ k, (Value.slice A lits.length c).ownBlock = some k → v.ownBlock ≠ some k)) _) (ownFrom_below hn0 (by omega))) (KeepsS.ownFrom hSlt (Nat.le_refl _)))
    (fun _ _ _ _ _ hs _ _ => hs)
    ⟨⟨⟨vo, bO1, by simpa [gout, runs] using pw_own_below ro hbw, hap⟩, hB0.trans (hbw.mono hn₀)⟩, KeepsS.refl _ _, Nat.le_refl _⟩
    (fun x => { tmps := #[.pointer (some ⟨L, 0, none⟩), .pointer (some ⟨O, 0, none⟩), .slice (some x.1.1) x.1.2.length x.1.2.length, .slice A lits.length c, .func (.func 23) #[] #[.pointer (some ⟨w.heap.size, 0, none⟩), .pointer (some ⟨w.heap.size + 1, 0, none⟩)], .slice (some x.1.1) x.1.2.length x.1.2.length, undef, undef, undef, undef, undef, undef, undef, undef, undef], defers := [] }) ?assign ?body ?done ?stop
  case assign =>
    intro l x W K hK
    gi_wp2
    exact hK
  case body =>
    rintro l pre x W ⟨⟨⟨vo', bO', ro', hap'⟩, hB'⟩, hks, hsz⟩ hlt
    have HG := Aside0.mk (gout_snoc outs pre x)
    obtain ⟨⟨ad, ps⟩, hxS, hx1, hx2, hxc⟩ := x
    dsimp only at hxS hx1 hx2 hxc HG ⊢
    have HKS := Aside0.mk hks
    have HAP := Aside0.mk hap'
    clear hks hap'
    have hc := bO'.cell
    have hnW : n₀ ≤ W.heap.size := by have := hB'.size; omega
    have hl := gout_le outs pre
    have hl2 : (gout outs pre).length + 300 ≤ 140737488355328 := by omega
    clear hl
    have hcells : ∀ j, j < ps.length → W.cell? (ad.add j) = some (.int .u8 (ps.getD j 0)) := fun j hj => HKS.out.cell (by rw [add_block]; exact .inr (.inr (.inr hxS))) (hxc j hj)
    have HCE := Aside0.mk hcells
    clear hcells
    have HLT : ad.block < W.heap.size := by
      have := hSlt _ (.inr (.inr (.inr hxS)))
      omega
    have HAD := Aside0.mk (HAP.out _ hxS)
    have HXS := Aside0.mk hxS
    gi_wp2_with (first
      | (gi_at_builtin; refine wpListIn_append_at _ rfl (.tmp 6) (.tmp 11) 22 rfl n₀ 5 (.int .u8 0) 1 1 Try.underlying22 info_u8 rfl (by decide) _ _ _ rfl (ro'.alloc _) ⟨W.heap.size, 0, none⟩ 1 1 [.int .u8 ((ps.length : Int) - 1)] rfl rfl (cell_one_new _ _ _) (by simp [Value.oneCell']) (by unfold maxLen; omega) (by omega) (by simp; omega) ?_; intro v1 w2 hown1 hgrow1 hat1; have bO2 : Boxed w2 O 22 vo' := (bO'.alloc _).kept hgrow1 (bO'.not_row (by decide) ro'); have HAT1 := Aside0.mk hat1; clear hat1)
      | (gi_at_builtin; go_must (refine wpListIn_append_at _ rfl (.tmp 12) (.tmp 13) 22 rfl n₀ 5 (.int .u8 0) 1 1 Try.underlying22 info_u8 rfl (by decide) v1 _ _ rfl hown1 ad ps.length ps.length (nums .u8 ps) rfl ?hln ?hcl ?h1c ?hmx ?hby ?hbs ?_); go_must (case hln => simp [nums]); go_must (case hcl => exact nums_cells ps _ ad (fun j hj => hgrow1.cell ((pw_cell_below (below_alloc (Below.refl _ _) _) (HCE.out j hj))) (by rw [add_block]; exact fun e => HAD.out e.symm))); go_must (case h1c => exact nums_one ps); go_must (case hmx => unfold maxLen; omega); go_must (case hby => omega); go_must (case hbs => have := hgrow1.size; simp at this; omega); go_must (intro v2 w3 hown2 hgrow2 hat2; have bO3 : Boxed w3 O 22 vo' := bO2.kept hgrow2 (bO2.not_row (by decide) hown1); have hc3 := bO3.cell; have hf3 := bO3.frozen; have HAT2 := Aside0.mk hat2; clear hat2; obtain ⟨g2, cap2, rfl, _, _⟩ := hown2.form (by omega))))
    have hl1 : (gout outs pre).length + 1 + ps.length = (gout outs (pre ++ [⟨(ad, ps), HXS.out, hx1, hx2, hxc⟩])).length := by rw [HG.out, List.length_append, runOf_length]; omega
    have hl3 : (gout outs pre).length + 1 = (gout outs pre ++ [(ps.length : Int) - 1]).length := by simp
    have hn1 : nums .u8 (gout outs pre) ++ [Value.int .u8 ((ps.length : Int) - 1)] = nums .u8 (gout outs pre ++ [(ps.length : Int) - 1]) := by simp [nums]
    have hn2 : nums .u8 (gout outs pre) ++ [Value.int .u8 ((ps.length : Int) - 1)] ++ nums .u8 ps = nums .u8 (gout outs (pre ++ [⟨(ad, ps), HXS.out, hx1, hx2, hxc⟩])) := by
      rw [HG.out]
      have : (((ps.length : Int) - 1) % 256) = (ps.length : Int) - 1 := by omega
      simp [nums, runOf, this]
    rw [hn1] at hown1
    rw [hn2] at hown2
    obtain ⟨r1, r2, r3, r4, r5, r6, r7⟩ := flush_round (zs := gout outs (pre ++ [⟨(ad, ps), HXS.out, hx1, hx2, hxc⟩])) hgrow1 hgrow2 HAT1.out HAT2.out bO' bO3 ro' hown1 hown2 hnW hO w1.heap.size
    have hS2 : KeepsS S W (w3.setCell ⟨O, 0, none⟩ (.slice (some ⟨g2, 0, none⟩) ((gout outs pre).length + 1 + ps.length) cap2)) := by
      intro k hk
      have hkB := hSlt k hk
      have hrow : vo'.ownBlock ≠ some k ∧ k ≠ O := by
        rcases hk with rfl | rfl | rfl | hk
        · refine ⟨fun e => ?_, by have := bO.lt; omega⟩
          have hb : Boxed W w.heap.size 22 (.slice A lits.length c) := (HKS.out _ (.inl rfl)).trans bBs
          exact hb.not_row (by decide) ro' e.symm
        · refine ⟨fun e => ?_, by have := bO.lt; omega⟩
          have hb : Boxed W (w.heap.size + 1) 3 (.int .i64 (128 : Nat)) := (HKS.out _ (.inr (.inl rfl))).trans bBn
          exact hb.not_row (by decide) ro' e.symm
        · refine ⟨fun e => ?_, hLO⟩
          have hb : Boxed W k 22 (.slice A lits.length c) := (HKS.out _ (.inr (.inr (.inl rfl)))).trans bL1
          exact hb.not_row (by decide) ro' e.symm
        · refine ⟨HAP.out _ hk, ?_⟩
          rintro rfl
          exact bO.not_row (by decide) rl hk.symm
      exact r2 k (by omega) hrow.1 hrow.2
    refine ⟨r1, hS2, ⟨⟨_, r3, by rw [← hl1]; exact r4, fun k hk => r5 k ?_ (HAP.out k hk)⟩, hB'.trans r6⟩, HKS.out.trans hS2, by omega⟩
    have := hSlt k (.inr (.inr (.inr hk)))
    omega
  case done =>
    rintro D ys W hD ⟨k, hk1, hk2, hys⟩ ⟨⟨⟨vo', bO', ro', hap'⟩, hB'⟩, hks, hsz⟩ hK
    have bL' : Boxed W L 22 (.slice A lits.length c) := (hks _ (.inr (.inr (.inl rfl)))).trans bL1
    have HKS := Aside0.mk hks
    have HAP := Aside0.mk hap'
    have HK1 := Aside0.mk hk1
    have HYS := Aside0.mk hys
    clear hks hap' hk1 hys
    have hcL' := bL'.cell
    have hfL' := bL'.frozen
    gi_wp2
    have hK' : (W.setCell ⟨L, 0, none⟩ (.slice none 0 0)).heap[D]? = some (.deferred (some [])) := (KeepsOthers.setCell _ _ _).same D _ hK rfl
    refine ⟨by simp, .inl ⟨_, _, rfl, run_takeDeferred hK', ?_⟩⟩
    have nD : ∀ {B : Nat} {t : TypeId} {v : Value}, Boxed (W.setCell ⟨L, 0, none⟩ (.slice none 0 0)) B t v → some B ≠ some D := by
      rintro B t v hb e
      cases e
      rw [show (W.setCell ⟨L, 0, none⟩ (.slice none 0 0)).heap[D]? = _ from hb] at hK'
      cases hK'
    have bO2 : Boxed (W.setCell ⟨L, 0, none⟩ (.slice none 0 0)) O 22 vo' := bO'.kept (grownBy_setCell' W L _) (fun e => hLO (by cases e; rfl))
    have ro2 : (W.setCell ⟨L, 0, none⟩ (.slice none 0 0)).ownsRow n₀ 5 1 vo' (gout outs ys).length (nums .u8 (gout outs ys)) := ro'.kept (grownBy_setCell' W L _) (.inr (bL'.not_row (by decide) ro').symm)
    have hgo : gout outs ys = outs ++ runs (pieces lits 128 k) := by unfold gout; rw [HYS.out]
    refine ⟨_, results_none rfl _ _ _, rfl, (bL'.set _).kept (grownBy_putObj' _ D _) (nD (bL'.set _)), ⟨vo', k, bO2.kept (grownBy_putObj' _ D _) (nD bO2), HK1.out, hk2, ?_⟩, ?_⟩
    · unfold Own5
      rw [← hgo]
      exact ownsRow_putObj ro2 _ hK' rfl
    · refine (hB'.setCell (p := ⟨L, 0, none⟩) hL _).grown (grownBy_putObj' _ D _) ?_ ?_
      · have := hB'.size
        have := (KeepsWalks.setCell W ⟨L, 0, none⟩ (.slice none 0 0)).size
        omega
      · intro j e; cases e; omega
  case stop =>
    rintro D c pre W _ _ h _
    exact h.elim

/-- flush, as a plain call. -/
theorem flush_calls (w0 w : World) (L O : Nat) (vl vo : Value) (lits outs : List Int) (n₀ : Nat) (hn₀ : n₀ ≤ w.heap.size) (hn0 : n₀ ≤ w0.heap.size) (hLO : L ≠ O) (hL : n₀ ≤ L) (hO : n₀ ≤ O)
    (bL : Boxed w L 22 vl) (bO : Boxed w O 22 vo) (rl : Own5 w n₀ vl lits) (ro : Own5 w n₀ vo outs) (hap : ∀ k, vl.ownBlock = some k → vo.ownBlock ≠ some k) (hB0 : Below n₀ w0 w)
    (hlim : outs.length + 130 * lits.length + 200 < 140737488355328) :
    Calls Try.prog 24 #[.pointer (some ⟨L, 0, none⟩), .pointer (some ⟨O, 0, none⟩)] w (FlushPost w0 n₀ L O lits outs) :=
  callsIn_wide.1 (flush_in 3 (by omega) w0 w L O vl vo lits outs n₀ hn₀ hn0 hLO hL hO bL bO rl ro hap hB0 hlim)
#print axioms flush_calls
end Go.Proofs.Yteljmmdbgnjflaa.H
