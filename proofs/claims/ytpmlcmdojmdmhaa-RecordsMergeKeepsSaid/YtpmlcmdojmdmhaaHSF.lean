/- The reference's SameFields and steps: two types agree in themselves; the types that are reached in a step. -/
import Derived.Test.YtpmlcmdojmdmhaaHReach
set_option linter.unusedVariables false
set_option linter.unusedSimpArgs false
set_option maxRecDepth 100000
namespace Go.Proofs.Ytpmlcmdojmdmhaa.PR
open Go.RowKit Go.Proofs.YtpmlcmdojmdmhaaW.PrintWords Go.Proofs.YtpmlcmdojmdmhaaW.PrintLast Go.Proofs.YtpmlcmdojmdmhaaW.PrintMore
set_option maxHeartbeats 1000000 in
theorem sameFields_calls (x y : S32) (A : Option Addr) (c : Nat) (B : Option Addr) (d : Nat) (r : Bool) (w : World) (hx : Kd.C k55 w A x.f5.length x.f5) (hy : Kd.C k55 w B y.f5.length y.f5) (hr : r = true ↔ Alike x y) :
 Calls Try.prog 30 #[.agg #[.int .i64 x.f0, .string x.f1, .int .i64 x.f2, .int .i64 x.f3, .int .i64 x.f4, .slice A x.f5.length c], .agg #[.int .i64 y.f0, .string y.f1, .int .i64 y.f2, .int .i64 y.f3, .int .i64 y.f4, .slice B y.f5.length d]] w fun e w' => e = .returned (.bool r) ∧ Below w.heap.size w w' := by
 have hu32 := Try.underlying32
 have HRX := Aside0.mk hx
 have HRY := Aside0.mk hy
 have HL := Aside0.mk (show x.f5.length ≤ 9223372036854775807 from hx.2.1)
 have HF := Aside0.mk hr
 clear hx hy hr
 go_enter Try.func30, Try.ntmps30
 go_upto_region 0 with (fail)
 go_cut [2, 3, 4] (fun v2 v3 v4 wc => ∃ g3 g4, v2 = .pointer (some ⟨g3, 0, none⟩) ∧ v3 = .pointer (some ⟨g4, 0, none⟩) ∧ v4 = .bool false ∧ Aside0 (wc.heap[g3]? = some (.cells #[.int .i64 x.f0, .string x.f1, .int .i64 x.f2, .int .i64 x.f3, .int .i64 x.f4, .slice A x.f5.length c] 32 (0, 0))) ∧ Aside0 (wc.heap[g4]? = some (.cells #[.int .i64 y.f0, .string y.f1, .int .i64 y.f2, .int .i64 y.f3, .int .i64 y.f4, .slice B y.f5.length d] 32 (0, 0))) ∧ Aside0 (Below w.heap.size w wc))
 case first =>
  go_wp2
  go_meet
  case rel => exact ⟨_, _, rfl, rfl, rfl, ⟨blk_alloc (blk_new _ _) _⟩, ⟨by have h := blk_new (w.alloc (.cells #[.int .i64 x.f0, .string x.f1, .int .i64 x.f2, .int .i64 x.f3, .int .i64 x.f4, .slice A x.f5.length c] 32)) (.cells #[.int .i64 y.f0, .string y.f1, .int .i64 y.f2, .int .i64 y.f3, .int .i64 y.f4, .slice B y.f5.length d] 32); simpa using h⟩, ⟨below_alloc (below_alloc (Below.refl _ _) _) _⟩⟩
 case rest =>
  obtain ⟨g3, g4, rfl, rfl, rfl, BX, BY, HB⟩ := hcut
  have hX0 := (blk_cell BX.out 0).trans rfl; have hY0 := (blk_cell BY.out 0).trans rfl
  have hX1 := (blk_cell BX.out 1).trans rfl; have hY1 := (blk_cell BY.out 1).trans rfl
  have hX2 := (blk_cell BX.out 2).trans rfl; have hY2 := (blk_cell BY.out 2).trans rfl
  have hX3 := (blk_cell BX.out 3).trans rfl; have hY3 := (blk_cell BY.out 3).trans rfl
  have hX4 := (blk_cell BX.out 4).trans rfl; have hY4 := (blk_cell BY.out 4).trans rfl
  have hX5 := (blk_cell BX.out 5).trans rfl; have hY5 := (blk_cell BY.out 5).trans rfl
  by_cases e0 : x.f0 = y.f0
  case neg => have e0b : (x.f0 == y.f0) = false := beq_eq_false_iff_ne.mpr e0; have e0n : (x.f0 != y.f0) = true := bne_iff_ne.mpr e0; obtain rfl : false = r := (by have h := HF.out; cases r with | false => rfl | true => exact absurd (h.1 rfl) (fun hh => e0 hh.1)); clear HF; go_wp2; go_ret; exact ⟨rfl, HB.out⟩
  have e0b : (x.f0 == y.f0) = true := beq_iff_eq.mpr e0; have e0n : (x.f0 != y.f0) = false := bne_eq_false_iff_eq.mpr e0; replace e0 := Aside0.mk e0
  by_cases e1 : x.f1.toList = y.f1.toList
  case neg => have e1b : (x.f1.toList == y.f1.toList) = false := beq_eq_false_iff_ne.mpr e1; have e1n : (x.f1.toList != y.f1.toList) = true := bne_iff_ne.mpr e1; obtain rfl : false = r := (by have h := HF.out; cases r with | false => rfl | true => exact absurd (h.1 rfl) (fun hh => e1 hh.2.1)); clear HF; go_wp2; go_ret; exact ⟨rfl, HB.out⟩
  have e1b : (x.f1.toList == y.f1.toList) = true := beq_iff_eq.mpr e1; have e1n : (x.f1.toList != y.f1.toList) = false := bne_eq_false_iff_eq.mpr e1; replace e1 := Aside0.mk e1
  by_cases e2 : x.f2 = y.f2
  case neg => have e2b : (x.f2 == y.f2) = false := beq_eq_false_iff_ne.mpr e2; have e2n : (x.f2 != y.f2) = true := bne_iff_ne.mpr e2; obtain rfl : false = r := (by have h := HF.out; cases r with | false => rfl | true => exact absurd (h.1 rfl) (fun hh => e2 hh.2.2.1)); clear HF; go_wp2; go_ret; exact ⟨rfl, HB.out⟩
  have e2b : (x.f2 == y.f2) = true := beq_iff_eq.mpr e2; have e2n : (x.f2 != y.f2) = false := bne_eq_false_iff_eq.mpr e2; replace e2 := Aside0.mk e2
  by_cases e4 : x.f4 = y.f4
  case neg => have e4b : (x.f4 == y.f4) = false := beq_eq_false_iff_ne.mpr e4; have e4n : (x.f4 != y.f4) = true := bne_iff_ne.mpr e4; obtain rfl : false = r := (by have h := HF.out; cases r with | false => rfl | true => exact absurd (h.1 rfl) (fun hh => e4 hh.2.2.2.1)); clear HF; go_wp2; go_ret; exact ⟨rfl, HB.out⟩
  have e4b : (x.f4 == y.f4) = true := beq_iff_eq.mpr e4; have e4n : (x.f4 != y.f4) = false := bne_eq_false_iff_eq.mpr e4; replace e4 := Aside0.mk e4
  by_cases e5 : (x.f5.length : Int) = (y.f5.length : Int)
  case neg => have e5b : ((x.f5.length : Int) == (y.f5.length : Int)) = false := beq_eq_false_iff_ne.mpr e5; have e5n : ((x.f5.length : Int) != (y.f5.length : Int)) = true := bne_iff_ne.mpr e5; obtain rfl : false = r := (by have h := HF.out; cases r with | false => rfl | true => exact absurd (h.1 rfl) (fun hh => e5 (by have := hh.2.2.2.2.1; omega))); clear HF; go_wp2; go_ret; exact ⟨rfl, HB.out⟩
  have e5b : ((x.f5.length : Int) == (y.f5.length : Int)) = true := beq_iff_eq.mpr e5; have e5n : ((x.f5.length : Int) != (y.f5.length : Int)) = false := bne_eq_false_iff_eq.mpr e5; replace e5 := Aside0.mk e5
  have HLE := Aside0.mk (show x.f5.length = y.f5.length from by have := e5.out; omega)
  have HS : Aside0 (r = true ↔ ∀ p, 0 ≤ p → p < x.f5.length → (fd x p).f0.toList = (fd y p).f0.toList ∧ (fd x p).f2 = (fd y p).f2) := ⟨HF.out.trans ⟨fun h p _ hp => h.2.2.2.2.2 p hp, fun h => ⟨e0.out, e1.out, e2.out, e4.out, HLE.out, fun p hp => h p (Nat.zero_le _) hp⟩⟩⟩
  clear HF
  go_wp2
  go_loopg [5] x.f5.length (fun kq v5 w' => ∃ q : Nat, v5 = .int .i64 (q : Int) ∧ Aside0 (q + kq = x.f5.length) ∧ Aside0 (r = true ↔ ∀ p, q ≤ p → p < x.f5.length → (fd x p).f0.toList = (fd y p).f0.toList ∧ (fd x p).f2 = (fd y p).f2) ∧ Aside0 (w'.heap[g3]? = some (.cells #[.int .i64 x.f0, .string x.f1, .int .i64 x.f2, .int .i64 x.f3, .int .i64 x.f4, .slice A x.f5.length c] 32 (0, 0))) ∧ Aside0 (w'.heap[g4]? = some (.cells #[.int .i64 y.f0, .string y.f1, .int .i64 y.f2, .int .i64 y.f3, .int .i64 y.f4, .slice B y.f5.length d] 32 (0, 0))) ∧ Aside0 (Below w.heap.size w w'))
  case atStart => exact ⟨0, rfl, ⟨by omega⟩, HS, BX, BY, HB⟩
  case round =>
   clear HS BX BY HB; clear hX0 hY0 hX1 hY1 hX2 hY2 hX3 hY3 hX4 hY4 hX5 hY5
   obtain ⟨q, rfl, HQ, HS, BX, BY, HB⟩ := hrel
   have hX5 := (blk_cell BX.out 5).trans rfl
   have hY5 := (blk_cell BY.out 5).trans rfl
   cases gk with
   | zero =>
    obtain rfl : q = x.f5.length := by have := HQ.out; omega
    obtain rfl : true = r := (HS.out.2 (fun p h0 h1 => by omega)).symm
    have d1 : decide ((x.f5.length : Int) < (x.f5.length : Int)) = false := decide_eq_false (by omega)
    go_wp2
    go_ret
    exact ⟨rfl, HB.out⟩
   | succ dd =>
    have hlq : q < x.f5.length := by have := HQ.out; omega
    have hlq1 : q < y.f5.length := by have := HLE.out; omega
    obtain ⟨ad, ea, hx0, hx1, hx2⟩ := at_T55 HRX.out (q : Int) (by omega) (by omega)
    obtain ⟨bd, eb, hy0, hy1, hy2⟩ := at_T55 HRY.out (q : Int) (by omega) (by omega)
    subst ea
    subst eb
    rw [fd_eq] at hx0 hx1 hx2 hy0 hy1 hy2
    simp only [Int.toNat_natCast] at hx0 hx1 hx2 hy0 hy1 hy2
    replace hx0 := (HB.out.cell (World.block_lt_of_cell? w _ hx0)).trans hx0
    replace hx2 := (HB.out.cell (World.block_lt_of_cell? w _ hx2)).trans hx2
    replace hy0 := (HB.out.cell (World.block_lt_of_cell? w _ hy0)).trans hy0
    replace hy2 := (HB.out.cell (World.block_lt_of_cell? w _ hy2)).trans hy2
    clear hx1 hy1
    have d1 : decide ((q : Int) < (x.f5.length : Int)) = true := decide_eq_true (by omega)
    have d2 : decide ((0 : Int) ≤ (q : Int)) = true := decide_eq_true (by omega)
    have d3 : ((0 : Int) ≤ (q : Int)) = True := eq_true (by omega)
    have d4 : ((q : Int) < (x.f5.length : Int)) = True := eq_true (by omega)
    have d5 : ((q : Int) < (y.f5.length : Int)) = True := eq_true (by omega)
    have d6 : decide ((q : Int) < (y.f5.length : Int)) = true := decide_eq_true (by omega)
    have HLQ := Aside0.mk hlq
    clear hlq hlq1
    by_cases n0 : (fd x q).f0.toList = (fd y q).f0.toList
    case neg =>
     have n0b : ((fd x q).f0.toList == (fd y q).f0.toList) = false := beq_eq_false_iff_ne.mpr n0; have n0n : ((fd x q).f0.toList != (fd y q).f0.toList) = true := bne_iff_ne.mpr n0; obtain rfl : false = r := (by have h := HS.out; cases r with | false => rfl | true => exact absurd (h.1 rfl) (fun hh => n0 (hh q (Nat.le_refl _) HLQ.out).1)); clear HS
     go_wp2
     repeat (go_quiet (fail); try go_wp2)
     go_ret; exact ⟨rfl, by first | exact HB.out | exact pw_below_drewN HB.out _⟩
    have n0b : ((fd x q).f0.toList == (fd y q).f0.toList) = true := beq_iff_eq.mpr n0; have n0n : ((fd x q).f0.toList != (fd y q).f0.toList) = false := bne_eq_false_iff_eq.mpr n0; replace n0 := Aside0.mk n0
    by_cases n2 : (fd x q).f2 = (fd y q).f2
    case neg =>
     have n2b : ((fd x q).f2 == (fd y q).f2) = false := beq_eq_false_iff_ne.mpr n2; have n2n : ((fd x q).f2 != (fd y q).f2) = true := bne_iff_ne.mpr n2; obtain rfl : false = r := (by have h := HS.out; cases r with | false => rfl | true => exact absurd (h.1 rfl) (fun hh => n2 (hh q (Nat.le_refl _) HLQ.out).2)); clear HS
     go_wp2
     repeat (go_quiet (fail); try go_wp2)
     go_ret; exact ⟨rfl, by first | exact HB.out | exact pw_below_drewN HB.out _⟩
    have n2b : ((fd x q).f2 == (fd y q).f2) = true := beq_iff_eq.mpr n2; have n2n : ((fd x q).f2 != (fd y q).f2) = false := bne_eq_false_iff_eq.mpr n2; replace n2 := Aside0.mk n2
    go_wp2
    repeat (go_quiet (fail); try go_wp2)
    go_roundg dd
    case measure => omega
    case rel => exact ⟨q + 1, by have := HQ.out; have := HL.out; rw [show wrap64 ((q : Int) + 1) = ((q + 1 : Nat) : Int) from by unfold wrap64; omega], ⟨by have := HQ.out; omega⟩, ⟨HS.out.trans ⟨fun h p h0 h1 => h p (by omega) h1, fun h p h0 h1 => by
     by_cases e : p = q
     · subst e; exact ⟨n0.out, n2.out⟩
     · exact h p (by omega) h1⟩⟩, ⟨by first | exact BX.out | exact blk_drewN BX.out _⟩, ⟨by first | exact BY.out | exact blk_drewN BY.out _⟩, ⟨by first | exact HB.out | exact pw_below_drewN HB.out _⟩⟩
set_option maxHeartbeats 1000000 in
theorem steps_calls (x : S32) (A : Option Addr) (c : Nat) (w : World) (hx : Kd.C k55 w A x.f5.length x.f5) (hl : x.f5.length ≤ 8) :
 Calls Try.prog 31 #[.agg #[.int .i64 x.f0, .string x.f1, .int .i64 x.f2, .int .i64 x.f3, .int .i64 x.f4, .slice A x.f5.length c]] w fun e w' => ∃ v, e = .returned v ∧ Kd.R (Kd.int .i64) 3 w' w.heap.size (fun _ => True) v (stp x) ∧ Below w.heap.size w w' := by
 have hu32 := Try.underlying32
 have HRX := Aside0.mk hx
 have HL := Aside0.mk hl
 clear hx hl
 go_enter Try.func31, Try.ntmps31
 go_upto_region 0 with (fail)
 go_cut [1, 2] (fun v1 v2 wc => ∃ g, v1 = .pointer (some ⟨g, 0, none⟩) ∧ v2 = .slice none 0 0 ∧ Aside0 (wc.heap[g]? = some (.cells #[.int .i64 x.f0, .string x.f1, .int .i64 x.f2, .int .i64 x.f3, .int .i64 x.f4, .slice A x.f5.length c] 32 (0, 0))) ∧ Aside0 (Below w.heap.size w wc))
 case first =>
  go_wp2
  go_meet
  case rel => exact ⟨_, rfl, rfl, ⟨blk_new _ _⟩, ⟨below_alloc (Below.refl _ _) _⟩⟩
 case rest =>
  obtain ⟨g, rfl, rfl, BX, HB⟩ := hcut
  have hX0 := (blk_cell BX.out 0).trans rfl; have hX3 := (blk_cell BX.out 3).trans rfl; have hX5 := (blk_cell BX.out 5).trans rfl
  by_cases e2 : x.f0 = 2
  case pos =>
   have HS := Aside0.mk (show stp x = [x.f3] from by unfold stp; rw [if_pos (.inl e2)])
   have e2b : (x.f0 == 2) = true := beq_iff_eq.mpr e2
   clear e2
   go_wp2_with (first | ((with_reducible refine gate_dst (N := 15) rfl ?_); refine Kd.R_lit (Kd.int .i64) _ 3 ?hg (N := 15) ?hd (xs := ([x.f3] : List Int)) (inner := [.int .i64 x.f3]) (ok := fun _ => True) (okp := fun _ => True) ?hr ?hp (fun _ hk => hk) trivial (Below.refl _ _) (Nat.le_refl _) (by simp) ?_; (case hd => rfl); (case hg => rfl); (case hr => first | (go_simp; done) | (go_simp; rfl)); (case hp => exact (Reps.one (show Kd.M (Kd.int .i64) _ _ _ x.f3 [.int .i64 x.f3] from rfl) (Reps.none _ _))); intro v9 w9 ho9 hb9 hg_ hnew_; clear hg_ hnew_; (try simp only [Int.reduceToNat] at ho9); have HO9 := Aside0.mk (Kd.R_lower ho9 HB.out.size); have HB9 := Aside0.mk (below_step HB.out hb9); clear ho9 hb9))
   go_ret
   exact ⟨_, rfl, by rw [HS.out]; exact HO9.out, HB9.out⟩
  have e2b : (x.f0 == 2) = false := beq_eq_false_iff_ne.mpr e2
  by_cases e3 : x.f0 = 3
  case pos =>
   have HS := Aside0.mk (show stp x = [x.f3] from by unfold stp; rw [if_pos (.inr e3)])
   have e3b : (x.f0 == 3) = true := beq_iff_eq.mpr e3
   clear e3 e2
   go_wp2_with (first | ((with_reducible refine gate_dst (N := 15) rfl ?_); refine Kd.R_lit (Kd.int .i64) _ 3 ?hg (N := 15) ?hd (xs := ([x.f3] : List Int)) (inner := [.int .i64 x.f3]) (ok := fun _ => True) (okp := fun _ => True) ?hr ?hp (fun _ hk => hk) trivial (Below.refl _ _) (Nat.le_refl _) (by simp) ?_; (case hd => rfl); (case hg => rfl); (case hr => first | (go_simp; done) | (go_simp; rfl)); (case hp => exact (Reps.one (show Kd.M (Kd.int .i64) _ _ _ x.f3 [.int .i64 x.f3] from rfl) (Reps.none _ _))); intro v9 w9 ho9 hb9 hg_ hnew_; clear hg_ hnew_; (try simp only [Int.reduceToNat] at ho9); have HO9 := Aside0.mk (Kd.R_lower ho9 HB.out.size); have HB9 := Aside0.mk (below_step HB.out hb9); clear ho9 hb9))
   go_ret
   exact ⟨_, rfl, by rw [HS.out]; exact HO9.out, HB9.out⟩
  have e3b : (x.f0 == 3) = false := beq_eq_false_iff_ne.mpr e3
  have HS := Aside0.mk (show stp x = x.f5.map (·.f1) from by unfold stp; rw [if_neg (by omega)])
  clear e2 e3
  go_wp2
  go_loopg [3, 4] x.f5.length (fun kq v3 v4 w' => ∃ q : Nat, v4 = .int .i64 (q : Int) ∧ Aside0 (q + kq = x.f5.length) ∧ Aside0 (Kd.R (Kd.int .i64) 3 w' w.heap.size (fun _ => True) v3 ((x.f5.map (·.f1)).take q)) ∧ Aside0 (w'.heap[g]? = some (.cells #[.int .i64 x.f0, .string x.f1, .int .i64 x.f2, .int .i64 x.f3, .int .i64 x.f4, .slice A x.f5.length c] 32 (0, 0))) ∧ Aside0 (Below w.heap.size w w'))
  case atStart => exact ⟨0, rfl, ⟨by omega⟩, ⟨Kd.R_nil _ _ _ _ _⟩, BX, HB⟩
  case round =>
   clear BX HB hX0 hX3 hX5
   obtain ⟨q, rfl, HQ, HO, BX, HB⟩ := hrel
   have hX5 := (blk_cell BX.out 5).trans rfl
   cases gk with
   | zero =>
    obtain rfl : q = x.f5.length := by have := HQ.out; omega
    have d1 : decide ((x.f5.length : Int) < (x.f5.length : Int)) = false := decide_eq_false (by omega)
    go_wp2
    go_ret
    exact ⟨_, rfl, by rw [HS.out]; have h := HO.out; rwa [List.take_of_length_le (by simp)] at h, HB.out⟩
   | succ dd =>
    have hlq : q < x.f5.length := by have := HQ.out; omega
    obtain ⟨ad, ea, hx0, hx1, hx2⟩ := at_T55 HRX.out (q : Int) (by omega) (by omega)
    subst ea
    rw [fd_eq] at hx1
    simp only [Int.toNat_natCast] at hx1
    replace hx1 := (HB.out.cell (World.block_lt_of_cell? w _ hx1)).trans hx1
    clear hx0 hx2
    have d1 : decide ((q : Int) < (x.f5.length : Int)) = true := decide_eq_true (by omega)
    have d3 : ((0 : Int) ≤ (q : Int)) = True := eq_true (by omega)
    have d4 : ((q : Int) < (x.f5.length : Int)) = True := eq_true (by omega)
    have d2 : decide ((0 : Int) ≤ (q : Int)) = true := decide_eq_true (by omega)
    have HT := Aside0.mk (show (x.f5.map (·.f1)).take (q + 1) = (x.f5.map (·.f1)).take q ++ [(fd x q).f1] from by
     rw [List.take_succ_eq_append_getElem (by rw [List.length_map]; exact hlq), List.getElem_map]
     unfold fd
     rw [List.getD_eq_getElem?_getD, List.getElem?_eq_getElem hlq]
     rfl)
    have HLT := Aside0.mk (show ((x.f5.map (·.f1)).take q).length ≤ 8 from by rw [List.length_take, List.length_map]; have := HL.out; omega)
    clear hlq
    go_wp2_with (first
     | (at_builtin; refine Kd.R_append (Kd.int .i64) (w0 := w) w.heap.size rfl (.tmp 23) (.tmp 30) 34 3 (.int .i64 0) 8 rfl Try.underlying34 info3 rfl (Nat.lt_succ_self 0) (by omega) u3 ((x.f5.map (·.f1)).take q) (fd x q).f1 [.int .i64 (fd x q).f1] (fun _ => True) (fun _ => False) rfl rfl rfl (fun _ hk => hk.elim) (fun _ _ => trivial) HO.out HB.out HB.out.size ?aL ?_; (case aL => have := HLT.out; omega); intro v31 W5 ho5 hb5 hg5 hat5; have n0_ := Aside0.mk (blk_grown BX.out hg5 (Kd.R_ne HO.out BX.out (by decide))); have n1_ := Aside0.mk hb5; have HO5 := Aside0.mk ho5; clear ho5 hb5 hg5 hat5 BX HB HO; have BX := n0_; have HB := n1_; clear n0_ n1_))
    go_roundg dd
    case measure => omega
    case rel => exact ⟨q + 1, by have := HQ.out; have := HL.out; rw [show wrap64 ((q : Int) + 1) = ((q + 1 : Nat) : Int) from by unfold wrap64; omega], ⟨by have := HQ.out; omega⟩, ⟨by rw [HT.out]; exact HO5.out⟩, BX, HB⟩
end Go.Proofs.Ytpmlcmdojmdmhaa.PR
