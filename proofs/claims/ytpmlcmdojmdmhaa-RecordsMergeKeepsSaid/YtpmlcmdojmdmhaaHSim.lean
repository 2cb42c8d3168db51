/- records.similar at two types, where its third argument is the closure over a table: what the function 'records_similar.f' tells. -/
import Derived.Test.YtpmlcmdojmdmhaaHNamed
set_option linter.unusedVariables false
set_option linter.unusedSimpArgs false
set_option maxRecDepth 100000
namespace Go.Proofs.Ytpmlcmdojmdmhaa.PR
open Go.RowKit Go.Proofs.YtpmlcmdojmdmhaaW.PrintWords Go.Proofs.YtpmlcmdojmdmhaaW.PrintLast Go.Proofs.YtpmlcmdojmdmhaaW.PrintMore
/-- The fields from q on (d are left). -/
def simF (T : List (List Bool)) : Nat → Nat → List S55 → List S55 → Option Bool
 | 0, _, _, _ => some true
 | d + 1, q, xs, ys => if (rd_T55 xs q).f0.toList = (rd_T55 ys q).f0.toList ∧ (rd_T55 xs q).f2 = (rd_T55 ys q).f2 then (sameAt.f T (rd_T55 xs q).f1 (rd_T55 ys q).f1).bind fun s => if s = true then simF T d (q + 1) xs ys else some false else some false
def records_similar.f (_ : Nat) (a0_0 : Int) (a0_1 : ByteArray) (a0_2 : Int) (a0_3 : Int) (a0_4 : Int) (l0_5 : List (S55)) (a1_0 : Int) (a1_1 : ByteArray) (a1_2 : Int) (a1_3 : Int) (a1_4 : Int) (l1_5 : List (S55)) (l2 : List (List Bool)) : Option Bool :=
 if a0_0 = a1_0 ∧ a0_1.toList = a1_1.toList ∧ a0_2 = a1_2 ∧ a0_4 = a1_4 ∧ l0_5.length = l1_5.length then
  (if a0_0 = 2 ∨ a0_0 = 3 then (sameAt.f l2 a0_3 a1_3).bind fun s => if s = true then simF l2 l0_5.length 0 l0_5 l1_5 else some false else simF l2 l0_5.length 0 l0_5 l1_5) else some false
set_option maxHeartbeats 1000000 in
theorem records_similar.calls (k : Nat) (a0_0 : Int) (a0_1 : ByteArray) (a0_2 : Int) (a0_3 : Int) (a0_4 : Int) (A0_5 : Option Addr) (c0_5 : Nat) (l0_5 : List (S55)) (a1_0 : Int) (a1_1 : ByteArray) (a1_2 : Int) (a1_3 : Int) (a1_4 : Int) (A1_5 : Option Addr) (c1_5 : Nat) (l1_5 : List (S55)) (A2 : Option Addr) (c2 : Nat) (l2 : List (List Bool)) (g : Nat) (r : Bool) (w : World) (hr0_5 : Kd.C k55 w A0_5 l0_5.length l0_5) (hc0_5 : l0_5.length ≤ c0_5) (hr1_5 : Kd.C k55 w A1_5 l1_5.length l1_5) (hc1_5 : l1_5.length ≤ c1_5) (hr2 : Kd.C (Kd.slice 4 Kd.bool) w A2 l2.length l2) (hc2 : l2.length ≤ c2) (hg : w.heap[g]? = some (.cells #[.slice A2 l2.length c2] 57 (0, 0))) (h : records_similar.f k a0_0 a0_1 a0_2 a0_3 a0_4 l0_5 a1_0 a1_1 a1_2 a1_3 a1_4 l1_5 l2 = some r) :
 Calls Try.prog 38 #[.agg #[.int .i64 a0_0, .string a0_1, .int .i64 a0_2, .int .i64 a0_3, .int .i64 a0_4, .slice A0_5 l0_5.length c0_5], .agg #[.int .i64 a1_0, .string a1_1, .int .i64 a1_2, .int .i64 a1_3, .int .i64 a1_4, .slice A1_5 l1_5.length c1_5], .func (.func 37) #[] #[.pointer (some ⟨g, 0, none⟩)]] w fun e w' => e = .returned (.bool r) ∧ Below w.heap.size w w' := by
 have hu32 := Try.underlying32
 have HR0 := Aside0.mk hr0_5
 have HR1 := Aside0.mk hr1_5
 have HR2 := Aside0.mk (And.intro hr2 (And.intro hc2 hg))
 have HL := Aside0.mk (show l0_5.length ≤ 9223372036854775807 from hr0_5.2.1)
 have HF := Aside0.mk h
 clear hr0_5 hc0_5 hr1_5 hc1_5 hr2 hc2 hg h
 go_enter Try.func38, Try.ntmps38
 go_upto_region 0 with (fail)
 go_cut [3, 4, 6] (fun v3 v4 v6 wc => ∃ g3 g4, v3 = .pointer (some ⟨g3, 0, none⟩) ∧ v4 = .pointer (some ⟨g4, 0, none⟩) ∧ v6 = .bool false ∧ Aside0 (wc.heap[g3]? = some (.cells #[.int .i64 a0_0, .string a0_1, .int .i64 a0_2, .int .i64 a0_3, .int .i64 a0_4, .slice A0_5 l0_5.length c0_5] 32 (0, 0))) ∧ Aside0 (wc.heap[g4]? = some (.cells #[.int .i64 a1_0, .string a1_1, .int .i64 a1_2, .int .i64 a1_3, .int .i64 a1_4, .slice A1_5 l1_5.length c1_5] 32 (0, 0))) ∧ Aside0 (Below w.heap.size w wc))
 case first =>
  go_wp2
  go_meet
  case rel => exact ⟨_, _, rfl, rfl, rfl, ⟨blk_alloc (blk_new _ _) _⟩, ⟨by have h := blk_new (w.alloc (.cells #[.int .i64 a0_0, .string a0_1, .int .i64 a0_2, .int .i64 a0_3, .int .i64 a0_4, .slice A0_5 l0_5.length c0_5] 32)) (.cells #[.int .i64 a1_0, .string a1_1, .int .i64 a1_2, .int .i64 a1_3, .int .i64 a1_4, .slice A1_5 l1_5.length c1_5] 32); simpa using h⟩, ⟨below_alloc (below_alloc (Below.refl _ _) _) _⟩⟩
 case rest =>
  obtain ⟨g3, g4, rfl, rfl, rfl, BX, BY, HB⟩ := hcut
  have hX0 := (blk_cell BX.out 0).trans rfl
  have hY0 := (blk_cell BY.out 0).trans rfl
  have hX1 := (blk_cell BX.out 1).trans rfl
  have hY1 := (blk_cell BY.out 1).trans rfl
  have hX2 := (blk_cell BX.out 2).trans rfl
  have hY2 := (blk_cell BY.out 2).trans rfl
  have hX3 := (blk_cell BX.out 3).trans rfl
  have hY3 := (blk_cell BY.out 3).trans rfl
  have hX4 := (blk_cell BX.out 4).trans rfl
  have hY4 := (blk_cell BY.out 4).trans rfl
  have hX5 := (blk_cell BX.out 5).trans rfl
  have hY5 := (blk_cell BY.out 5).trans rfl
  by_cases e0 : a0_0 = a1_0
  case neg =>
   have e0b : (a0_0 == a1_0) = false := beq_eq_false_iff_ne.mpr e0
   have e0n : (a0_0 != a1_0) = true := bne_iff_ne.mpr e0
   obtain rfl : false = r := by have h := HF.out; unfold records_similar.f at h; rw [if_neg (fun hh => e0 (by exact hh.1))] at h; simpa using h
   go_wp2
   go_ret
   exact ⟨rfl, HB.out⟩
  have e0b : (a0_0 == a1_0) = true := beq_iff_eq.mpr e0
  have e0n : (a0_0 != a1_0) = false := bne_eq_false_iff_eq.mpr e0
  replace e0 := Aside0.mk e0
  by_cases e1 : a0_1.toList = a1_1.toList
  case neg =>
   have e1b : (a0_1.toList == a1_1.toList) = false := beq_eq_false_iff_ne.mpr e1
   have e1n : (a0_1.toList != a1_1.toList) = true := bne_iff_ne.mpr e1
   obtain rfl : false = r := by have h := HF.out; unfold records_similar.f at h; rw [if_neg (fun hh => e1 (by exact hh.2.1))] at h; simpa using h
   go_wp2
   go_ret
   exact ⟨rfl, HB.out⟩
  have e1b : (a0_1.toList == a1_1.toList) = true := beq_iff_eq.mpr e1
  have e1n : (a0_1.toList != a1_1.toList) = false := bne_eq_false_iff_eq.mpr e1
  replace e1 := Aside0.mk e1
  by_cases e2 : a0_2 = a1_2
  case neg =>
   have e2b : (a0_2 == a1_2) = false := beq_eq_false_iff_ne.mpr e2
   have e2n : (a0_2 != a1_2) = true := bne_iff_ne.mpr e2
   obtain rfl : false = r := by have h := HF.out; unfold records_similar.f at h; rw [if_neg (fun hh => e2 (by exact hh.2.2.1))] at h; simpa using h
   go_wp2
   go_ret
   exact ⟨rfl, HB.out⟩
  have e2b : (a0_2 == a1_2) = true := beq_iff_eq.mpr e2
  have e2n : (a0_2 != a1_2) = false := bne_eq_false_iff_eq.mpr e2
  replace e2 := Aside0.mk e2
  by_cases e4 : a0_4 = a1_4
  case neg =>
   have e4b : (a0_4 == a1_4) = false := beq_eq_false_iff_ne.mpr e4
   have e4n : (a0_4 != a1_4) = true := bne_iff_ne.mpr e4
   obtain rfl : false = r := by have h := HF.out; unfold records_similar.f at h; rw [if_neg (fun hh => e4 (by exact hh.2.2.2.1))] at h; simpa using h
   go_wp2
   go_ret
   exact ⟨rfl, HB.out⟩
  have e4b : (a0_4 == a1_4) = true := beq_iff_eq.mpr e4
  have e4n : (a0_4 != a1_4) = false := bne_eq_false_iff_eq.mpr e4
  replace e4 := Aside0.mk e4
  by_cases e5 : (l0_5.length : Int) = (l1_5.length : Int)
  case neg =>
   have e5b : ((l0_5.length : Int) == (l1_5.length : Int)) = false := beq_eq_false_iff_ne.mpr e5
   have e5n : ((l0_5.length : Int) != (l1_5.length : Int)) = true := bne_iff_ne.mpr e5
   obtain rfl : false = r := by have h := HF.out; unfold records_similar.f at h; rw [if_neg (fun hh => e5 (by have := hh.2.2.2.2; omega))] at h; simpa using h
   go_wp2
   go_ret
   exact ⟨rfl, HB.out⟩
  have e5b : ((l0_5.length : Int) == (l1_5.length : Int)) = true := beq_iff_eq.mpr e5
  have e5n : ((l0_5.length : Int) != (l1_5.length : Int)) = false := bne_eq_false_iff_eq.mpr e5
  replace e5 := Aside0.mk e5
  have HF1 : Aside0 ((if a0_0 = 2 ∨ a0_0 = 3 then (sameAt.f l2 a0_3 a1_3).bind fun s => if s = true then simF l2 l0_5.length 0 l0_5 l1_5 else some false else simF l2 l0_5.length 0 l0_5 l1_5) = some r) := ⟨by have h := HF.out; unfold records_similar.f at h; rw [if_pos ⟨e0.out, e1.out, e2.out, e4.out, by have := e5.out; omega⟩] at h; exact h⟩
  have HLE := Aside0.mk (show l0_5.length = l1_5.length from by have := e5.out; omega)
  clear HF
  obtain ⟨bk, hbk⟩ : ∃ b : Bool, (b = true ↔ ¬ ((a0_0 = 2 ∨ a0_0 = 3) → sameAt.f l2 a0_3 a1_3 = some true)) := ⟨decide _, decide_eq_true_iff⟩
  have HBK := Aside0.mk hbk
  clear hbk
  go_upto_region 3 with (fail)
  go_cut [61] (fun v61 wc2 => ∃ b : Bool, v61 = .bool b ∧ Aside0 (if b = true then r = false else simF l2 l0_5.length 0 l0_5 l1_5 = some r) ∧ Aside0 (wc2.heap[g3]? = some (.cells #[.int .i64 a0_0, .string a0_1, .int .i64 a0_2, .int .i64 a0_3, .int .i64 a0_4, .slice A0_5 l0_5.length c0_5] 32 (0, 0))) ∧ Aside0 (wc2.heap[g4]? = some (.cells #[.int .i64 a1_0, .string a1_1, .int .i64 a1_2, .int .i64 a1_3, .int .i64 a1_4, .slice A1_5 l1_5.length c1_5] 32 (0, 0))) ∧ Aside0 (Below w.heap.size w wc2))
  case first =>
   by_cases k2 : a0_0 = 2
   case pos =>
    have k2b : (a0_0 == 2) = true := beq_iff_eq.mpr k2
    obtain ⟨s, S1', S2'⟩ := Option.bind_eq_some_iff.mp (show (sameAt.f l2 a0_3 a1_3).bind (fun s => if s = true then simF l2 l0_5.length 0 l0_5 l1_5 else some false) = some r from by have h := HF1.out; rwa [if_pos (.inl k2)] at h)
    have S1 := Aside0.mk S1'
    have S2 := Aside0.mk S2'
    clear S1' S2' HF1 k2
    cases s with
    | true =>
     go_wp2_with (first | (go_at_call 37; refine (sameAt.calls _ _ l2 a0_3 a1_3 g true _ (blk_below HR2.out.2.2 HB.out) (Kd.C_below HR2.out.1 HB.out) HR2.out.2.1 S1.out).mono ?_; rintro e w9 ⟨rfl, hd⟩; have HB9 := Aside0.mk (below_step HB.out hd.below); have BX9 := Aside0.mk (blk_below BX.out hd.below); have BY9 := Aside0.mk (blk_below BY.out hd.below); clear hd))
     go_meet
     case rel => exact ⟨false, rfl, ⟨by simpa using S2.out⟩, BX9, BY9, HB9⟩
    | false =>
     go_wp2_with (first | (go_at_call 37; refine (sameAt.calls _ _ l2 a0_3 a1_3 g false _ (blk_below HR2.out.2.2 HB.out) (Kd.C_below HR2.out.1 HB.out) HR2.out.2.1 S1.out).mono ?_; rintro e w9 ⟨rfl, hd⟩; have HB9 := Aside0.mk (below_step HB.out hd.below); have BX9 := Aside0.mk (blk_below BX.out hd.below); have BY9 := Aside0.mk (blk_below BY.out hd.below); clear hd))
     go_meet
     case rel => exact ⟨true, rfl, ⟨by simpa [eq_comm] using S2.out⟩, BX9, BY9, HB9⟩
   have k2b : (a0_0 == 2) = false := beq_eq_false_iff_ne.mpr k2
   by_cases k3 : a0_0 = 3
   case pos =>
    have k3b : (a0_0 == 3) = true := beq_iff_eq.mpr k3
    obtain ⟨s, S1', S2'⟩ := Option.bind_eq_some_iff.mp (show (sameAt.f l2 a0_3 a1_3).bind (fun s => if s = true then simF l2 l0_5.length 0 l0_5 l1_5 else some false) = some r from by have h := HF1.out; rwa [if_pos (.inr k3)] at h)
    have S1 := Aside0.mk S1'
    have S2 := Aside0.mk S2'
    clear S1' S2' HF1 k3
    cases s with
    | true =>
     go_wp2_with (first | (go_at_call 37; refine (sameAt.calls _ _ l2 a0_3 a1_3 g true _ (blk_below HR2.out.2.2 HB.out) (Kd.C_below HR2.out.1 HB.out) HR2.out.2.1 S1.out).mono ?_; rintro e w9 ⟨rfl, hd⟩; have HB9 := Aside0.mk (below_step HB.out hd.below); have BX9 := Aside0.mk (blk_below BX.out hd.below); have BY9 := Aside0.mk (blk_below BY.out hd.below); clear hd))
     go_meet
     case rel => exact ⟨false, rfl, ⟨by simpa using S2.out⟩, BX9, BY9, HB9⟩
    | false =>
     go_wp2_with (first | (go_at_call 37; refine (sameAt.calls _ _ l2 a0_3 a1_3 g false _ (blk_below HR2.out.2.2 HB.out) (Kd.C_below HR2.out.1 HB.out) HR2.out.2.1 S1.out).mono ?_; rintro e w9 ⟨rfl, hd⟩; have HB9 := Aside0.mk (below_step HB.out hd.below); have BX9 := Aside0.mk (blk_below BX.out hd.below); have BY9 := Aside0.mk (blk_below BY.out hd.below); clear hd))
     go_meet
     case rel => exact ⟨true, rfl, ⟨by simpa [eq_comm] using S2.out⟩, BX9, BY9, HB9⟩
   have k3b : (a0_0 == 3) = false := beq_eq_false_iff_ne.mpr k3
   go_wp2
   go_meet
   case rel => exact ⟨false, rfl, ⟨by have h := HF1.out; rw [if_neg (fun hh => hh.elim k2 k3)] at h; simpa using h⟩, BX, BY, HB⟩
  case rest =>
   clear BX BY HB HF1
   obtain ⟨b, rfl, HS0, BX, BY, HB⟩ := hcut
   cases b with
   | true =>
    obtain rfl : r = false := by simpa using HS0.out
    go_wp2
    go_ret
    exact ⟨rfl, HB.out⟩
   | false =>
    have HS : Aside0 (simF l2 l0_5.length 0 l0_5 l1_5 = some r) := ⟨by simpa using HS0.out⟩
    clear HS0
    have hX5' := (blk_cell BX.out 5).trans rfl
    go_wp2
    go_loopg [65] l0_5.length (fun kq v65 w' => ∃ q : Nat, v65 = .int .i64 (q : Int) ∧ Aside0 (q + kq = l0_5.length) ∧ Aside0 (simF l2 kq q l0_5 l1_5 = some r) ∧ Aside0 (w'.heap[g4]? = some (.cells #[.int .i64 a1_0, .string a1_1, .int .i64 a1_2, .int .i64 a1_3, .int .i64 a1_4, .slice A1_5 l1_5.length c1_5] 32 (0, 0))) ∧ Aside0 (Below w.heap.size w w'))
    case atStart => exact ⟨0, rfl, ⟨by omega⟩, HS, BY, HB⟩
    case round =>
     clear HS
     obtain ⟨q, rfl, HQ, HS, BYq, HBq⟩ := hrel
     cases gk with
     | zero =>
      obtain rfl : q = l0_5.length := by have := HQ.out; omega
      obtain rfl : true = r := by have h := HS.out; simpa [simF] using h
      have d1 : decide ((l0_5.length : Int) < (l0_5.length : Int)) = false := decide_eq_false (by omega)
      go_wp2
      go_ret
      exact ⟨rfl, HBq.out⟩
     | succ dd =>
      have hlq : q < l0_5.length := by have := HQ.out; omega
      have hlq1 : q < l1_5.length := by have := HLE.out; omega
      obtain ⟨ad, ea, hx0, hx1, hx2⟩ := at_T55 HR0.out (q : Int) (by omega) (by omega)
      obtain ⟨bd, eb, hy0, hy1, hy2⟩ := at_T55 HR1.out (q : Int) (by omega) (by omega)
      subst ea
      subst eb
      simp only [Int.toNat_natCast] at hx0 hx1 hx2 hy0 hy1 hy2
      replace hx0 := (HBq.out.cell (World.block_lt_of_cell? w _ hx0)).trans hx0
      replace hx1 := (HBq.out.cell (World.block_lt_of_cell? w _ hx1)).trans hx1
      replace hx2 := (HBq.out.cell (World.block_lt_of_cell? w _ hx2)).trans hx2
      have HY := Aside0.mk (And.intro hy0 (And.intro hy1 hy2))
      clear hy0 hy1 hy2
      have hyb : wr.cell? ⟨g4, 5, none⟩ = some (.slice (some bd) l1_5.length c1_5) := (blk_cell BYq.out 5).trans rfl
      generalize hf : rd_T55 l0_5 (q : Int) = f at *
      generalize hh : rd_T55 l1_5 (q : Int) = h5 at *
      have HSU : Aside0 ((if f.f0.toList = h5.f0.toList ∧ f.f2 = h5.f2 then (sameAt.f l2 f.f1 h5.f1).bind fun s => if s = true then simF l2 dd (q + 1) l0_5 l1_5 else some false else some false) = some r) := ⟨by have h := HS.out; rw [simF, hf, hh] at h; exact h⟩
      clear HS hf hh
      have d1 : decide ((q : Int) < (l0_5.length : Int)) = true := decide_eq_true (by omega)
      have d2 : decide ((0 : Int) ≤ (q : Int)) = true := decide_eq_true (by omega)
      have d3 : ((0 : Int) ≤ (q : Int)) = True := eq_true (by omega)
      have d4 : ((q : Int) < (l0_5.length : Int)) = True := eq_true (by omega)
      have d5 : ((q : Int) < (l1_5.length : Int)) = True := eq_true (by omega)
      have d6 : decide ((q : Int) < (l1_5.length : Int)) = true := decide_eq_true (by omega)
      by_cases n0 : f.f0.toList = h5.f0.toList
      case neg =>
       have n0b : (f.f0.toList == h5.f0.toList) = false := beq_eq_false_iff_ne.mpr n0
       have n0n : (f.f0.toList != h5.f0.toList) = true := bne_iff_ne.mpr n0
       obtain rfl : false = r := by have h := HSU.out; rw [if_neg (fun hh => n0 hh.1)] at h; simpa using h
       go_wp2_with (first
       | ((with_reducible refine gate_dst (N := 8) rfl ?_); refine box_event ?hg (N := 8) ?hd (cs := #[.string (⟨#[]⟩ : ByteArray), .int .i64 0, .int .i64 0]) (t := 55) ?hr ?_; (case hd => rfl); (case hg => rfl); (case hr => first | (go_simp; done) | (go_simp; rfl)); intro gf hgb W7 hbx hb7; have hz0 := (blk_cell hbx 0).trans rfl; have hz1 := (blk_cell hbx 1).trans rfl; have hz2 := (blk_cell hbx 2).trans rfl; have hy0 := blk_frozen hbx 0; have hy1 := blk_frozen hbx 1; have hy2 := blk_frozen hbx 2; have HX := Aside0.mk (And.intro hgb (And.intro hbx hb7)); clear hbx hb7 hgb)
       | ((with_reducible refine gate_store (t := 55) (p := 8) rfl ?_); refine store_event (t := 55) (p := 8) (v := .tmp 69) (w1 := (((W7.setCell ⟨gf, 0, none⟩ (.string f.f0)).setCell ⟨gf, 1, none⟩ (.int .i64 f.f1)).setCell ⟨gf, 2, none⟩ (.int .i64 f.f2))) ?hg ?ho ?hn ?hr ?_; (case ho => rfl); (case hg => rfl); (case hn => rfl); (case hr => first | (go_simp; done) | (go_simp; rfl)); intro W8 hw8; have BF := Aside0.mk (show W8.heap[gf]? = some (.cells #[.string f.f0, .int .i64 f.f1, .int .i64 f.f2] 55 (0, 0)) from by rw [hw8]; exact blk_put (blk_put (blk_put HX.out.2.1 0 _ rfl) 1 _ rfl) 2 _ rfl); have HB1 := Aside0.mk (show Below wr.heap.size wr W8 from by rw [hw8]; (repeat refine below_set ?_ (Nat.le_of_eq HX.out.1.symm)); exact HX.out.2.2); have hyb8 : W8.cell? ⟨g4, 5, none⟩ = some (.slice (some bd) l1_5.length c1_5) := pw_cell_below HB1.out hyb; have hw0 := (below_step HBq.out HB1.out).cell (World.block_lt_of_cell? w _ HY.out.1) |>.trans HY.out.1; have hw1 := (below_step HBq.out HB1.out).cell (World.block_lt_of_cell? w _ HY.out.2.1) |>.trans HY.out.2.1; have hw2 := (below_step HBq.out HB1.out).cell (World.block_lt_of_cell? w _ HY.out.2.2) |>.trans HY.out.2.2; clear hw8 HX hz0 hz1 hz2 hy0 hy1 hy2)
       | ((with_reducible refine gate_dst (N := 9) rfl ?_); refine box_event ?hg (N := 9) ?hd (cs := #[.string (⟨#[]⟩ : ByteArray), .int .i64 0, .int .i64 0]) (t := 55) ?hr ?_; (case hd => rfl); (case hg => rfl); (case hr => first | (go_simp; done) | (go_simp; rfl)); intro gg hgb W7' hbx hb7; have hz0 := (blk_cell hbx 0).trans rfl; have hz1 := (blk_cell hbx 1).trans rfl; have hz2 := (blk_cell hbx 2).trans rfl; have hy0 := blk_frozen hbx 0; have hy1 := blk_frozen hbx 1; have hy2 := blk_frozen hbx 2; have HX := Aside0.mk (And.intro hgb (And.intro hbx hb7)); clear hbx hb7 hgb)
       | ((with_reducible refine gate_store (t := 55) (p := 9) rfl ?_); refine store_event (t := 55) (p := 9) (v := .tmp 74) (w1 := (((W7'.setCell ⟨gg, 0, none⟩ (.string h5.f0)).setCell ⟨gg, 1, none⟩ (.int .i64 h5.f1)).setCell ⟨gg, 2, none⟩ (.int .i64 h5.f2))) ?hg ?ho ?hn ?hr ?_; (case ho => rfl); (case hg => rfl); (case hn => rfl); (case hr => first | (go_simp; done) | (go_simp; rfl)); intro W9 hw8; have BG := Aside0.mk (show W9.heap[gg]? = some (.cells #[.string h5.f0, .int .i64 h5.f1, .int .i64 h5.f2] 55 (0, 0)) from by rw [hw8]; exact blk_put (blk_put (blk_put HX.out.2.1 0 _ rfl) 1 _ rfl) 2 _ rfl); have hgg : Below W8.heap.size W8 W9 := (by rw [hw8]; (repeat refine below_set ?_ (Nat.le_of_eq HX.out.1.symm)); exact HX.out.2.2); have HB3 := Aside0.mk (below_step HB1.out hgg); have HB2 := Aside0.mk (below_step HBq.out HB3.out); have BF2 := Aside0.mk (blk_below BF.out hgg); clear hgg hw8 HX hz0 hz1 hz2 hy0 hy1 hy2; have hF0 := (blk_cell BF2.out 0).trans rfl; have hG0 := (blk_cell BG.out 0).trans rfl; have hF1 := (blk_cell BF2.out 1).trans rfl; have hG1 := (blk_cell BG.out 1).trans rfl; have hF2 := (blk_cell BF2.out 2).trans rfl; have hG2 := (blk_cell BG.out 2).trans rfl))
       go_ret
       exact ⟨rfl, HB2.out⟩
      have n0b : (f.f0.toList == h5.f0.toList) = true := beq_iff_eq.mpr n0
      have n0n : (f.f0.toList != h5.f0.toList) = false := bne_eq_false_iff_eq.mpr n0
      replace n0 := Aside0.mk n0
      by_cases n2 : f.f2 = h5.f2
      case neg =>
       have n2b : (f.f2 == h5.f2) = false := beq_eq_false_iff_ne.mpr n2
       have n2n : (f.f2 != h5.f2) = true := bne_iff_ne.mpr n2
       obtain rfl : false = r := by have h := HSU.out; rw [if_neg (fun hh => n2 hh.2)] at h; simpa using h
       go_wp2_with (first
       | ((with_reducible refine gate_dst (N := 8) rfl ?_); refine box_event ?hg (N := 8) ?hd (cs := #[.string (⟨#[]⟩ : ByteArray), .int .i64 0, .int .i64 0]) (t := 55) ?hr ?_; (case hd => rfl); (case hg => rfl); (case hr => first | (go_simp; done) | (go_simp; rfl)); intro gf hgb W7 hbx hb7; have hz0 := (blk_cell hbx 0).trans rfl; have hz1 := (blk_cell hbx 1).trans rfl; have hz2 := (blk_cell hbx 2).trans rfl; have hy0 := blk_frozen hbx 0; have hy1 := blk_frozen hbx 1; have hy2 := blk_frozen hbx 2; have HX := Aside0.mk (And.intro hgb (And.intro hbx hb7)); clear hbx hb7 hgb)
       | ((with_reducible refine gate_store (t := 55) (p := 8) rfl ?_); refine store_event (t := 55) (p := 8) (v := .tmp 69) (w1 := (((W7.setCell ⟨gf, 0, none⟩ (.string f.f0)).setCell ⟨gf, 1, none⟩ (.int .i64 f.f1)).setCell ⟨gf, 2, none⟩ (.int .i64 f.f2))) ?hg ?ho ?hn ?hr ?_; (case ho => rfl); (case hg => rfl); (case hn => rfl); (case hr => first | (go_simp; done) | (go_simp; rfl)); intro W8 hw8; have BF := Aside0.mk (show W8.heap[gf]? = some (.cells #[.string f.f0, .int .i64 f.f1, .int .i64 f.f2] 55 (0, 0)) from by rw [hw8]; exact blk_put (blk_put (blk_put HX.out.2.1 0 _ rfl) 1 _ rfl) 2 _ rfl); have HB1 := Aside0.mk (show Below wr.heap.size wr W8 from by rw [hw8]; (repeat refine below_set ?_ (Nat.le_of_eq HX.out.1.symm)); exact HX.out.2.2); have hyb8 : W8.cell? ⟨g4, 5, none⟩ = some (.slice (some bd) l1_5.length c1_5) := pw_cell_below HB1.out hyb; have hw0 := (below_step HBq.out HB1.out).cell (World.block_lt_of_cell? w _ HY.out.1) |>.trans HY.out.1; have hw1 := (below_step HBq.out HB1.out).cell (World.block_lt_of_cell? w _ HY.out.2.1) |>.trans HY.out.2.1; have hw2 := (below_step HBq.out HB1.out).cell (World.block_lt_of_cell? w _ HY.out.2.2) |>.trans HY.out.2.2; clear hw8 HX hz0 hz1 hz2 hy0 hy1 hy2)
       | ((with_reducible refine gate_dst (N := 9) rfl ?_); refine box_event ?hg (N := 9) ?hd (cs := #[.string (⟨#[]⟩ : ByteArray), .int .i64 0, .int .i64 0]) (t := 55) ?hr ?_; (case hd => rfl); (case hg => rfl); (case hr => first | (go_simp; done) | (go_simp; rfl)); intro gg hgb W7' hbx hb7; have hz0 := (blk_cell hbx 0).trans rfl; have hz1 := (blk_cell hbx 1).trans rfl; have hz2 := (blk_cell hbx 2).trans rfl; have hy0 := blk_frozen hbx 0; have hy1 := blk_frozen hbx 1; have hy2 := blk_frozen hbx 2; have HX := Aside0.mk (And.intro hgb (And.intro hbx hb7)); clear hbx hb7 hgb)
       | ((with_reducible refine gate_store (t := 55) (p := 9) rfl ?_); refine store_event (t := 55) (p := 9) (v := .tmp 74) (w1 := (((W7'.setCell ⟨gg, 0, none⟩ (.string h5.f0)).setCell ⟨gg, 1, none⟩ (.int .i64 h5.f1)).setCell ⟨gg, 2, none⟩ (.int .i64 h5.f2))) ?hg ?ho ?hn ?hr ?_; (case ho => rfl); (case hg => rfl); (case hn => rfl); (case hr => first | (go_simp; done) | (go_simp; rfl)); intro W9 hw8; have BG := Aside0.mk (show W9.heap[gg]? = some (.cells #[.string h5.f0, .int .i64 h5.f1, .int .i64 h5.f2] 55 (0, 0)) from by rw [hw8]; exact blk_put (blk_put (blk_put HX.out.2.1 0 _ rfl) 1 _ rfl) 2 _ rfl); have hgg : Below W8.heap.size W8 W9 := (by rw [hw8]; (repeat refine below_set ?_ (Nat.le_of_eq HX.out.1.symm)); exact HX.out.2.2); have HB3 := Aside0.mk (below_step HB1.out hgg); have HB2 := Aside0.mk (below_step HBq.out HB3.out); have BF2 := Aside0.mk (blk_below BF.out hgg); clear hgg hw8 HX hz0 hz1 hz2 hy0 hy1 hy2; have hF0 := (blk_cell BF2.out 0).trans rfl; have hG0 := (blk_cell BG.out 0).trans rfl; have hF1 := (blk_cell BF2.out 1).trans rfl; have hG1 := (blk_cell BG.out 1).trans rfl; have hF2 := (blk_cell BF2.out 2).trans rfl; have hG2 := (blk_cell BG.out 2).trans rfl))
       go_ret
       exact ⟨rfl, HB2.out⟩
      have n2b : (f.f2 == h5.f2) = true := beq_iff_eq.mpr n2
      have n2n : (f.f2 != h5.f2) = false := bne_eq_false_iff_eq.mpr n2
      replace n2 := Aside0.mk n2
      obtain ⟨s, S1', S2'⟩ := Option.bind_eq_some_iff.mp (show (sameAt.f l2 f.f1 h5.f1).bind (fun s => if s = true then simF l2 dd (q + 1) l0_5 l1_5 else some false) = some r from by have h := HSU.out; rwa [if_pos ⟨n0.out, n2.out⟩] at h)
      have S1 := Aside0.mk S1'
      have S2 := Aside0.mk S2'
      clear S1' S2' HSU
      cases s with
      | true =>
       replace S2 : Aside0 (simF l2 dd (q + 1) l0_5 l1_5 = some r) := ⟨by simpa using S2.out⟩
       go_wp2_with (first
       | ((with_reducible refine gate_dst (N := 8) rfl ?_); refine box_event ?hg (N := 8) ?hd (cs := #[.string (⟨#[]⟩ : ByteArray), .int .i64 0, .int .i64 0]) (t := 55) ?hr ?_; (case hd => rfl); (case hg => rfl); (case hr => first | (go_simp; done) | (go_simp; rfl)); intro gf hgb W7 hbx hb7; have hz0 := (blk_cell hbx 0).trans rfl; have hz1 := (blk_cell hbx 1).trans rfl; have hz2 := (blk_cell hbx 2).trans rfl; have hy0 := blk_frozen hbx 0; have hy1 := blk_frozen hbx 1; have hy2 := blk_frozen hbx 2; have HX := Aside0.mk (And.intro hgb (And.intro hbx hb7)); clear hbx hb7 hgb)
       | ((with_reducible refine gate_store (t := 55) (p := 8) rfl ?_); refine store_event (t := 55) (p := 8) (v := .tmp 69) (w1 := (((W7.setCell ⟨gf, 0, none⟩ (.string f.f0)).setCell ⟨gf, 1, none⟩ (.int .i64 f.f1)).setCell ⟨gf, 2, none⟩ (.int .i64 f.f2))) ?hg ?ho ?hn ?hr ?_; (case ho => rfl); (case hg => rfl); (case hn => rfl); (case hr => first | (go_simp; done) | (go_simp; rfl)); intro W8 hw8; have BF := Aside0.mk (show W8.heap[gf]? = some (.cells #[.string f.f0, .int .i64 f.f1, .int .i64 f.f2] 55 (0, 0)) from by rw [hw8]; exact blk_put (blk_put (blk_put HX.out.2.1 0 _ rfl) 1 _ rfl) 2 _ rfl); have HB1 := Aside0.mk (show Below wr.heap.size wr W8 from by rw [hw8]; (repeat refine below_set ?_ (Nat.le_of_eq HX.out.1.symm)); exact HX.out.2.2); have hyb8 : W8.cell? ⟨g4, 5, none⟩ = some (.slice (some bd) l1_5.length c1_5) := pw_cell_below HB1.out hyb; have hw0 := (below_step HBq.out HB1.out).cell (World.block_lt_of_cell? w _ HY.out.1) |>.trans HY.out.1; have hw1 := (below_step HBq.out HB1.out).cell (World.block_lt_of_cell? w _ HY.out.2.1) |>.trans HY.out.2.1; have hw2 := (below_step HBq.out HB1.out).cell (World.block_lt_of_cell? w _ HY.out.2.2) |>.trans HY.out.2.2; clear hw8 HX hz0 hz1 hz2 hy0 hy1 hy2)
       | ((with_reducible refine gate_dst (N := 9) rfl ?_); refine box_event ?hg (N := 9) ?hd (cs := #[.string (⟨#[]⟩ : ByteArray), .int .i64 0, .int .i64 0]) (t := 55) ?hr ?_; (case hd => rfl); (case hg => rfl); (case hr => first | (go_simp; done) | (go_simp; rfl)); intro gg hgb W7' hbx hb7; have hz0 := (blk_cell hbx 0).trans rfl; have hz1 := (blk_cell hbx 1).trans rfl; have hz2 := (blk_cell hbx 2).trans rfl; have hy0 := blk_frozen hbx 0; have hy1 := blk_frozen hbx 1; have hy2 := blk_frozen hbx 2; have HX := Aside0.mk (And.intro hgb (And.intro hbx hb7)); clear hbx hb7 hgb)
       | ((with_reducible refine gate_store (t := 55) (p := 9) rfl ?_); refine store_event (t := 55) (p := 9) (v := .tmp 74) (w1 := (((W7'.setCell ⟨gg, 0, none⟩ (.string h5.f0)).setCell ⟨gg, 1, none⟩ (.int .i64 h5.f1)).setCell ⟨gg, 2, none⟩ (.int .i64 h5.f2))) ?hg ?ho ?hn ?hr ?_; (case ho => rfl); (case hg => rfl); (case hn => rfl); (case hr => first | (go_simp; done) | (go_simp; rfl)); intro W9 hw8; have BG := Aside0.mk (show W9.heap[gg]? = some (.cells #[.string h5.f0, .int .i64 h5.f1, .int .i64 h5.f2] 55 (0, 0)) from by rw [hw8]; exact blk_put (blk_put (blk_put HX.out.2.1 0 _ rfl) 1 _ rfl) 2 _ rfl); have hgg : Below W8.heap.size W8 W9 := (by rw [hw8]; (repeat refine below_set ?_ (Nat.le_of_eq HX.out.1.symm)); exact HX.out.2.2); have HB3 := Aside0.mk (below_step HB1.out hgg); have HB2 := Aside0.mk (below_step HBq.out HB3.out); have BF2 := Aside0.mk (blk_below BF.out hgg); clear hgg hw8 HX hz0 hz1 hz2 hy0 hy1 hy2; have hF0 := (blk_cell BF2.out 0).trans rfl; have hG0 := (blk_cell BG.out 0).trans rfl; have hF1 := (blk_cell BF2.out 1).trans rfl; have hG1 := (blk_cell BG.out 1).trans rfl; have hF2 := (blk_cell BF2.out 2).trans rfl; have hG2 := (blk_cell BG.out 2).trans rfl)
       | (go_at_call 37; refine (sameAt.calls _ _ l2 f.f1 h5.f1 g true _ (blk_below HR2.out.2.2 HB2.out) (Kd.C_below HR2.out.1 HB2.out) HR2.out.2.1 S1.out).mono ?_; rintro e w9 ⟨rfl, hd⟩; have HB4 := Aside0.mk (below_step HB3.out hd.below); clear hd))
       go_roundg dd
       case measure => omega
       case rel => exact ⟨q + 1, by have := HQ.out; have := HL.out; rw [show wrap64 ((q : Int) + 1) = ((q + 1 : Nat) : Int) from by unfold wrap64; omega], ⟨by have := HQ.out; omega⟩, S2, ⟨blk_below BYq.out HB4.out⟩, ⟨below_step HBq.out HB4.out⟩⟩
      | false =>
       obtain rfl : false = r := by simpa using S2.out
       go_wp2_with (first
       | ((with_reducible refine gate_dst (N := 8) rfl ?_); refine box_event ?hg (N := 8) ?hd (cs := #[.string (⟨#[]⟩ : ByteArray), .int .i64 0, .int .i64 0]) (t := 55) ?hr ?_; (case hd => rfl); (case hg => rfl); (case hr => first | (go_simp; done) | (go_simp; rfl)); intro gf hgb W7 hbx hb7; have hz0 := (blk_cell hbx 0).trans rfl; have hz1 := (blk_cell hbx 1).trans rfl; have hz2 := (blk_cell hbx 2).trans rfl; have hy0 := blk_frozen hbx 0; have hy1 := blk_frozen hbx 1; have hy2 := blk_frozen hbx 2; have HX := Aside0.mk (And.intro hgb (And.intro hbx hb7)); clear hbx hb7 hgb)
       | ((with_reducible refine gate_store (t := 55) (p := 8) rfl ?_); refine store_event (t := 55) (p := 8) (v := .tmp 69) (w1 := (((W7.setCell ⟨gf, 0, none⟩ (.string f.f0)).setCell ⟨gf, 1, none⟩ (.int .i64 f.f1)).setCell ⟨gf, 2, none⟩ (.int .i64 f.f2))) ?hg ?ho ?hn ?hr ?_; (case ho => rfl); (case hg => rfl); (case hn => rfl); (case hr => first | (go_simp; done) | (go_simp; rfl)); intro W8 hw8; have BF := Aside0.mk (show W8.heap[gf]? = some (.cells #[.string f.f0, .int .i64 f.f1, .int .i64 f.f2] 55 (0, 0)) from by rw [hw8]; exact blk_put (blk_put (blk_put HX.out.2.1 0 _ rfl) 1 _ rfl) 2 _ rfl); have HB1 := Aside0.mk (show Below wr.heap.size wr W8 from by rw [hw8]; (repeat refine below_set ?_ (Nat.le_of_eq HX.out.1.symm)); exact HX.out.2.2); have hyb8 : W8.cell? ⟨g4, 5, none⟩ = some (.slice (some bd) l1_5.length c1_5) := pw_cell_below HB1.out hyb; have hw0 := (below_step HBq.out HB1.out).cell (World.block_lt_of_cell? w _ HY.out.1) |>.trans HY.out.1; have hw1 := (below_step HBq.out HB1.out).cell (World.block_lt_of_cell? w _ HY.out.2.1) |>.trans HY.out.2.1; have hw2 := (below_step HBq.out HB1.out).cell (World.block_lt_of_cell? w _ HY.out.2.2) |>.trans HY.out.2.2; clear hw8 HX hz0 hz1 hz2 hy0 hy1 hy2)
       | ((with_reducible refine gate_dst (N := 9) rfl ?_); refine box_event ?hg (N := 9) ?hd (cs := #[.string (⟨#[]⟩ : ByteArray), .int .i64 0, .int .i64 0]) (t := 55) ?hr ?_; (case hd => rfl); (case hg => rfl); (case hr => first | (go_simp; done) | (go_simp; rfl)); intro gg hgb W7' hbx hb7; have hz0 := (blk_cell hbx 0).trans rfl; have hz1 := (blk_cell hbx 1).trans rfl; have hz2 := (blk_cell hbx 2).trans rfl; have hy0 := blk_frozen hbx 0; have hy1 := blk_frozen hbx 1; have hy2 := blk_frozen hbx 2; have HX := Aside0.mk (And.intro hgb (And.intro hbx hb7)); clear hbx hb7 hgb)
       | ((with_reducible refine gate_store (t := 55) (p := 9) rfl ?_); refine store_event (t := 55) (p := 9) (v := .tmp 74) (w1 := (((W7'.setCell ⟨gg, 0, none⟩ (.string h5.f0)).setCell ⟨gg, 1, none⟩ (.int .i64 h5.f1)).setCell ⟨gg, 2, none⟩ (.int .i64 h5.f2))) ?hg ?ho ?hn ?hr ?_; (case ho => rfl); (case hg => rfl); (case hn => rfl); (case hr => first | (go_simp; done) | (go_simp; rfl)); intro W9 hw8; have BG := Aside0.mk (show W9.heap[gg]? = some (.cells #[.string h5.f0, .int .i64 h5.f1, .int .i64 h5.f2] 55 (0, 0)) from by rw [hw8]; exact blk_put (blk_put (blk_put HX.out.2.1 0 _ rfl) 1 _ rfl) 2 _ rfl); have hgg : Below W8.heap.size W8 W9 := (by rw [hw8]; (repeat refine below_set ?_ (Nat.le_of_eq HX.out.1.symm)); exact HX.out.2.2); have HB3 := Aside0.mk (below_step HB1.out hgg); have HB2 := Aside0.mk (below_step HBq.out HB3.out); have BF2 := Aside0.mk (blk_below BF.out hgg); clear hgg hw8 HX hz0 hz1 hz2 hy0 hy1 hy2; have hF0 := (blk_cell BF2.out 0).trans rfl; have hG0 := (blk_cell BG.out 0).trans rfl; have hF1 := (blk_cell BF2.out 1).trans rfl; have hG1 := (blk_cell BG.out 1).trans rfl; have hF2 := (blk_cell BF2.out 2).trans rfl; have hG2 := (blk_cell BG.out 2).trans rfl)
       | (go_at_call 37; refine (sameAt.calls _ _ l2 f.f1 h5.f1 g false _ (blk_below HR2.out.2.2 HB2.out) (Kd.C_below HR2.out.1 HB2.out) HR2.out.2.1 S1.out).mono ?_; rintro e w9 ⟨rfl, hd⟩; have HB4 := Aside0.mk (below_step HB3.out hd.below); clear hd))
       go_ret
       exact ⟨rfl, below_step HBq.out HB4.out⟩
end Go.Proofs.Ytpmlcmdojmdmhaa.PR
