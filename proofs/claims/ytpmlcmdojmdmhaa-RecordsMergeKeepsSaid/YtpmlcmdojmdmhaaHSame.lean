/- records.Same, walked by hand: it tells whether two types are equal, or a fault. -/
import Derived.Test.YtpmlcmdojmdmhaaHBis
import Derived.Test.YtpmlcmdojmdmhaaPRx14
set_option linter.unusedVariables false
set_option linter.unusedSimpArgs false
set_option maxRecDepth 100000
namespace Go.Proofs.Ytpmlcmdojmdmhaa.PR
open Go.RowKit Go.Proofs.YtpmlcmdojmdmhaaW.PrintWords Go.Proofs.YtpmlcmdojmdmhaaW.PrintLast Go.Proofs.YtpmlcmdojmdmhaaW.PrintMore
attribute [local go_sem high] eqA25
/-- What records.Same returns. -/
def SameR (a : List S32) (i : Int) (b : List S32) (k : Int) (r1 : Bool) (r2 r3 : Int) : Prop :=
 ((fault2 a i).1 ≠ 0 ∧ r1 = false ∧ r2 = (fault2 a i).1 ∧ r3 = (fault2 a i).2) ∨ ((fault2 a i).1 = 0 ∧ (fault2 b k).1 ≠ 0 ∧ r1 = false ∧ r2 = (fault2 b k).1 ∧ r3 = -3) ∨ ((fault2 a i).1 = 0 ∧ (fault2 b k).1 = 0 ∧ (r1 = true ↔ Bis a b i k) ∧ r2 = 0 ∧ r3 = 0)
set_option maxHeartbeats 1000000 in
theorem same_calls (w : World) (A : Option Addr) (c : Nat) (a : List S32) (hC : Kd.C k32 w A a.length a) (hc : a.length ≤ c) (hw : WfL a) (i : Int) (B : Option Addr) (d : Nat) (b : List S32) (hD : Kd.C k32 w B b.length b) (hd : b.length ≤ d) (hu : WfL b) (k : Int) (r1 : Bool) (r2 r3 : Int) (hr : SameR a i b k r1 r2 r3) :
 Calls Try.prog 18 #[.slice A a.length c, .int .i64 i, .slice B b.length d, .int .i64 k] w fun e w' => e = .returned (.tuple #[.bool r1, .agg #[.int .i64 r2, .int .i64 r3]]) ∧ Below w.heap.size w w' := by
 have HC := Aside0.mk hC
 have HCL := Aside0.mk hc
 have HD := Aside0.mk hD
 have HDL := Aside0.mk hd
 obtain ⟨ka, ea⟩ := (checkType_ev hw i).rounds
 obtain ⟨kb, eb⟩ := (checkType_ev hu k).rounds
 clear hC hc hD hd hw hu
 rcases hr with ⟨h1, rfl, h2, h3⟩ | ⟨h1, h2, rfl, h3, rfl⟩ | ⟨h1, h2, h3, rfl, rfl⟩
 · obtain ⟨F1, F2, hF⟩ : ∃ p q, fault2 a i = (p, q) := ⟨_, _, rfl⟩
   rw [hF] at h1 h2 h3 ea
   have HK := Aside0.mk ea
   obtain rfl : r2 = F1 := h2
   obtain rfl : r3 = F2 := h3
   have hb : (!(r2 == 0 && (r3 == 0))) = true := by
    by_cases a : r2 = 0 <;> by_cases b : r3 = 0 <;> simp_all
   clear h1 hF ea eb
   go_enter Try.func18, Try.ntmps18
   go_wp2_with (first
    | ((with_reducible refine gate_dst (N := 9) rfl ?_); refine box_event ?hg (N := 9) ?hd (cs := #[.int .i64 0, .int .i64 0]) (t := 25) ?hr ?_; (case hd => rfl); (case hg => rfl); (case hr => first | (go_simp; done) | (go_simp; rfl)); intro g6 hg6 W1 hbx6 hb6; have HB6 := Aside0.mk hb6; have BX6 := Aside0.mk hbx6; have HG6 := Aside0.mk (Nat.le_of_eq hg6.symm); clear hb6 hbx6 hg6)
    | (go_at_call 28; (with_reducible show Calls Try.prog 28 #[.slice A a.length c, .int .i64 i] _ _); refine (records_checkType.calls ka _ _ a i r2 r3 _ (Kd.C_below HC.out HB6.out) HCL.out HK.out).mono ?_; rintro e W27 ⟨rfl, hb2⟩; have BX7 := Aside0.mk (blk_below BX6.out hb2); have HB7 := Aside0.mk (below_step HB6.out hb2); clear hb2)
    | ((with_reducible refine gate_dst (N := 10) rfl ?_); refine box_event ?hg (N := 10) ?hd (cs := #[.int .i64 0, .int .i64 0]) (t := 25) ?hr ?_; (case hd => rfl); (case hg => rfl); (case hr => first | (go_simp; done) | (go_simp; rfl)); intro g7 hg7 W39 hbx7 hb7; have N69 : g6 ≠ g7 := (by have := blk_lt BX7.out; omega); have BX8 := Aside0.mk (blk_below BX7.out hb7); have BY8 := Aside0.mk hbx7; have HB8 := Aside0.mk (below_step HB7.out hb7); have HG7 := Aside0.mk (show w.heap.size ≤ g7 from by have := HB7.out.size; omega); have hz0 := (blk_cell hbx7 0).trans rfl; have hz1 := (blk_cell hbx7 1).trans rfl; have hy0 := blk_frozen hbx7 0; have hy1 := blk_frozen hbx7 1; clear hb7 hbx7 hg7 BX7 HB7)
    | ((with_reducible refine gate_store (t := 25) (p := 10) rfl ?_); refine store_event (t := 25) (p := 10) (v := .tmp 14) (w1 := ((W39.setCell ⟨g7, 0, none⟩ (.int .i64 r2)).setCell ⟨g7, 1, none⟩ (.int .i64 r3))) ?hg ?ho ?hn ?hr ?_; (case ho => rfl); (case hg => rfl); (case hn => rfl); (case hr => first | (go_simp; done) | (go_simp; rfl)); intro W49 hw4; have BX9 := Aside0.mk (show W49.heap[g6]? = some (.cells #[.int .i64 0, .int .i64 0] 25 (0, 0)) from by rw [hw4]; exact blk_far (blk_far BX8.out N69 _) N69 _); have BY9 := Aside0.mk (show W49.heap[g7]? = some (.cells #[.int .i64 r2, .int .i64 r3] 25 (0, 0)) from by rw [hw4]; exact boxed2 BY8.out); have HB9 := Aside0.mk (show Below w.heap.size w W49 from by rw [hw4]; exact below_set (below_set HB8.out HG7.out) HG7.out); clear hw4 hz0 hz1 hy0 hy1 BX8 BY8 HB8 HG7 ; have hq0 := (blk_cell BX9.out 0).trans rfl; have hq1 := (blk_cell BX9.out 1).trans rfl; have hp0 := blk_frozen BX9.out 0; have hp1 := blk_frozen BX9.out 1; have kq0 := (blk_cell BY9.out 0).trans rfl; have kq1 := (blk_cell BY9.out 1).trans rfl; have kp0 := blk_frozen BY9.out 0; have kp1 := blk_frozen BY9.out 1))
   go_region_held3 (fun w' => w'.cell? ⟨g7, 0, none⟩ = some (.int .i64 r2) ∧ w'.cell? ⟨g7, 1, none⟩ = some (.int .i64 r3)) (first | go_keep) (first | fail)
   go_wp2
   refine bodyPost_ret (results_list (rs := [.tmp 8, .cell 9 25]) rfl (by simp) (.tmp (.cell g6 25 #[.int .i64 r2, .int .i64 r3] (0, 0) _ rfl (blk_drew (boxed2 BX9.out)) Try.underlying25 rfl (by kernel_rfl) .nil))) rfl ?_
   exact ⟨rfl, below_drew1 (below_set (below_set HB9.out HG6.out) HG6.out)⟩
 · obtain ⟨G1, G2, hG⟩ : ∃ p q, fault2 b k = (p, q) := ⟨_, _, rfl⟩
   have e2 := fault2_snd h1
   rw [e2] at ea
   rw [hG] at h2 h3 eb
   have HK := Aside0.mk ea
   have HK2 := Aside0.mk eb
   obtain rfl : r2 = G1 := h3
   have hb : (!(r2 == 0 && (G2 == 0))) = true := by
    by_cases a : r2 = 0 <;> by_cases b : G2 = 0 <;> simp_all
   clear h1 h2 hG ea eb e2
   go_enter Try.func18, Try.ntmps18
   go_wp2_with (first
    | ((with_reducible refine gate_dst (N := 9) rfl ?_); refine box_event ?hg (N := 9) ?hd (cs := #[.int .i64 0, .int .i64 0]) (t := 25) ?hr ?_; (case hd => rfl); (case hg => rfl); (case hr => first | (go_simp; done) | (go_simp; rfl)); intro g6 hg6 W1 hbx6 hb6; have HB6 := Aside0.mk hb6; have BX6 := Aside0.mk hbx6; have HG6 := Aside0.mk (Nat.le_of_eq hg6.symm); clear hb6 hbx6 hg6)
    | (go_at_call 28; (with_reducible show Calls Try.prog 28 #[.slice A a.length c, .int .i64 i] _ _); refine (records_checkType.calls ka _ _ a i 0 0 _ (Kd.C_below HC.out HB6.out) HCL.out HK.out).mono ?_; rintro e W27 ⟨rfl, hb2⟩; have BX7 := Aside0.mk (blk_below BX6.out hb2); have HB7 := Aside0.mk (below_step HB6.out hb2); clear hb2)
    | ((with_reducible refine gate_dst (N := 10) rfl ?_); refine box_event ?hg (N := 10) ?hd (cs := #[.int .i64 0, .int .i64 0]) (t := 25) ?hr ?_; (case hd => rfl); (case hg => rfl); (case hr => first | (go_simp; done) | (go_simp; rfl)); intro g7 hg7 W39 hbx7 hb7; have N69 : g6 ≠ g7 := (by have := blk_lt BX7.out; omega); have BX8 := Aside0.mk (blk_below BX7.out hb7); have BY8 := Aside0.mk hbx7; have HB8 := Aside0.mk (below_step HB7.out hb7); have HG7 := Aside0.mk (show w.heap.size ≤ g7 from by have := HB7.out.size; omega); have hz0 := (blk_cell hbx7 0).trans rfl; have hz1 := (blk_cell hbx7 1).trans rfl; have hy0 := blk_frozen hbx7 0; have hy1 := blk_frozen hbx7 1; clear hb7 hbx7 hg7 BX7 HB7)
    | ((with_reducible refine gate_store (t := 25) (p := 10) rfl ?_); refine store_event (t := 25) (p := 10) (v := .tmp 14) (w1 := ((W39.setCell ⟨g7, 0, none⟩ (.int .i64 0)).setCell ⟨g7, 1, none⟩ (.int .i64 0))) ?hg ?ho ?hn ?hr ?_; (case ho => rfl); (case hg => rfl); (case hn => rfl); (case hr => first | (go_simp; done) | (go_simp; rfl)); intro W49 hw4; have BX9 := Aside0.mk (show W49.heap[g6]? = some (.cells #[.int .i64 0, .int .i64 0] 25 (0, 0)) from by rw [hw4]; exact blk_far (blk_far BX8.out N69 _) N69 _); have BY9 := Aside0.mk (show W49.heap[g7]? = some (.cells #[.int .i64 0, .int .i64 0] 25 (0, 0)) from by rw [hw4]; exact boxed2 BY8.out); have HB9 := Aside0.mk (show Below w.heap.size w W49 from by rw [hw4]; exact below_set (below_set HB8.out HG7.out) HG7.out); clear hw4 hz0 hz1 hy0 hy1 BX8 BY8 HB8 HG7 ; have hq0 := (blk_cell BX9.out 0).trans rfl; have hq1 := (blk_cell BX9.out 1).trans rfl; have hp0 := blk_frozen BX9.out 0; have hp1 := blk_frozen BX9.out 1; have kq0 := (blk_cell BY9.out 0).trans rfl; have kq1 := (blk_cell BY9.out 1).trans rfl; have kp0 := blk_frozen BY9.out 0; have kp1 := blk_frozen BY9.out 1)
    | (go_at_call 28; (with_reducible show Calls Try.prog 28 #[.slice B b.length d, .int .i64 k] _ _); refine (records_checkType.calls kb _ _ b k r2 G2 _ (Kd.C_below HD.out HB9.out) HDL.out HK2.out).mono ?_; rintro e W210 ⟨rfl, hb2⟩; have BX10 := Aside0.mk (blk_below BX9.out hb2); have HB10 := Aside0.mk (below_step HB9.out hb2); clear hb2 hq0 hq1 hp0 hp1)
    | ((with_reducible refine gate_dst (N := 11) rfl ?_); refine box_event ?hg (N := 11) ?hd (cs := #[.int .i64 0, .int .i64 0]) (t := 25) ?hr ?_; (case hd => rfl); (case hg => rfl); (case hr => first | (go_simp; done) | (go_simp; rfl)); intro g8 hg7 W312 hbx7 hb7; have N612 : g6 ≠ g8 := (by have := blk_lt BX10.out; omega); have BX8 := Aside0.mk (blk_below BX10.out hb7); have BY8 := Aside0.mk hbx7; have HB8 := Aside0.mk (below_step HB10.out hb7); have HG7 := Aside0.mk (show w.heap.size ≤ g8 from by have := HB10.out.size; omega); have hz0 := (blk_cell hbx7 0).trans rfl; have hz1 := (blk_cell hbx7 1).trans rfl; have hy0 := blk_frozen hbx7 0; have hy1 := blk_frozen hbx7 1; clear hb7 hbx7 hg7 BX10 HB10)
    | ((with_reducible refine gate_store (t := 25) (p := 11) rfl ?_); refine store_event (t := 25) (p := 11) (v := .tmp 21) (w1 := ((W312.setCell ⟨g8, 0, none⟩ (.int .i64 r2)).setCell ⟨g8, 1, none⟩ (.int .i64 G2))) ?hg ?ho ?hn ?hr ?_; (case ho => rfl); (case hg => rfl); (case hn => rfl); (case hr => first | (go_simp; done) | (go_simp; rfl)); intro W412 hw4; have BX12 := Aside0.mk (show W412.heap[g6]? = some (.cells #[.int .i64 0, .int .i64 0] 25 (0, 0)) from by rw [hw4]; exact blk_far (blk_far BX8.out N612 _) N612 _); have BY12 := Aside0.mk (show W412.heap[g8]? = some (.cells #[.int .i64 r2, .int .i64 G2] 25 (0, 0)) from by rw [hw4]; exact boxed2 BY8.out); have HB12 := Aside0.mk (show Below w.heap.size w W412 from by rw [hw4]; exact below_set (below_set HB8.out HG7.out) HG7.out); clear hw4 hz0 hz1 hy0 hy1 BX8 BY8 HB8 HG7 kq0 kq1 kp0 kp1 BY9; have hq0 := (blk_cell BX12.out 0).trans rfl; have hq1 := (blk_cell BX12.out 1).trans rfl; have hp0 := blk_frozen BX12.out 0; have hp1 := blk_frozen BX12.out 1; have kq0 := (blk_cell BY12.out 0).trans rfl; have kq1 := (blk_cell BY12.out 1).trans rfl; have kp0 := blk_frozen BY12.out 0; have kp1 := blk_frozen BY12.out 1))
   go_region_held3 (fun w' => w'.cell? ⟨g8, 0, none⟩ = some (.int .i64 r2)) (first | go_keep) (first | fail)
   go_wp2
   refine bodyPost_ret (results_list (rs := [.tmp 8, .cell 9 25]) rfl (by simp) (.tmp (.cell g6 25 #[.int .i64 r2, .int .i64 (-3)] (0, 0) _ rfl (blk_drew (boxed2 BX12.out)) Try.underlying25 rfl (by kernel_rfl) .nil))) rfl ?_
   exact ⟨rfl, below_drew1 (below_set (below_set HB12.out HG6.out) HG6.out)⟩
 · have e1 := fault2_snd h1
   have e2 := fault2_snd h2
   rw [e1] at ea
   rw [e2] at eb
   have HK := Aside0.mk ea
   have HK2 := Aside0.mk eb
   obtain ⟨va, i0, i1⟩ := fault2_zero.1 h1
   obtain ⟨vb, k0, k1⟩ := fault2_zero.1 h2
   obtain ⟨T, hT, hl, hwd, hiff⟩ := pairs_ev va vb
   obtain ⟨kp, hP⟩ := hT.rounds
   have HP := Aside0.mk hP
   have ht := hiff i k ⟨i0, i1⟩ ⟨k0, k1⟩
   obtain ⟨m, rfl⟩ := Int.eq_ofNat_of_zero_le i0
   obtain ⟨q, rfl⟩ := Int.eq_ofNat_of_zero_le k0
   obtain rfl : tabAt T m q = r1 := by
    have h4 := ht.trans h3.symm
    simp only [Tab, Int.toNat_natCast] at h4
    cases hx : tabAt T m q <;> cases r1 <;> simp_all
   have HT := Aside0.mk (And.intro hl (And.intro hwd (And.intro (show m < T.length by omega) (show q < b.length by omega))))
   have d1 : decide ((0 : Int) ≤ (m : Int)) = true := decide_eq_true i0
   have d2 : decide ((m : Int) < (T.length : Int)) = true := decide_eq_true (by omega)
   have d3 : decide ((0 : Int) ≤ (q : Int)) = true := decide_eq_true k0
   have d4 : decide ((q : Int) < (b.length : Int)) = true := decide_eq_true k1
   have d5 : ((0 : Int) ≤ (m : Int)) = True := eq_true i0
   have d6 : ((m : Int) < (T.length : Int)) = True := eq_true (by omega)
   have d7 : ((0 : Int) ≤ (q : Int)) = True := eq_true k0
   have d8 : ((q : Int) < (b.length : Int)) = True := eq_true k1
   clear h1 h2 h3 ea eb e1 e2 va vb i0 i1 k0 k1 hT hl hwd hiff hP ht
   go_enter Try.func18, Try.ntmps18
   go_wp2_with (first
    | ((with_reducible refine gate_dst (N := 9) rfl ?_); refine box_event ?hg (N := 9) ?hd (cs := #[.int .i64 0, .int .i64 0]) (t := 25) ?hr ?_; (case hd => rfl); (case hg => rfl); (case hr => first | (go_simp; done) | (go_simp; rfl)); intro g6 hg6 W1 hbx6 hb6; have HB6 := Aside0.mk hb6; have BX6 := Aside0.mk hbx6; have HG6 := Aside0.mk (Nat.le_of_eq hg6.symm); clear hb6 hbx6 hg6)
    | (go_at_call 28; (with_reducible show Calls Try.prog 28 #[.slice A a.length c, .int .i64 ((m : Nat) : Int)] _ _); refine (records_checkType.calls ka _ _ a ((m : Nat) : Int) 0 0 _ (Kd.C_below HC.out HB6.out) HCL.out HK.out).mono ?_; rintro e W27 ⟨rfl, hb2⟩; have BX7 := Aside0.mk (blk_below BX6.out hb2); have HB7 := Aside0.mk (below_step HB6.out hb2); clear hb2)
    | ((with_reducible refine gate_dst (N := 10) rfl ?_); refine box_event ?hg (N := 10) ?hd (cs := #[.int .i64 0, .int .i64 0]) (t := 25) ?hr ?_; (case hd => rfl); (case hg => rfl); (case hr => first | (go_simp; done) | (go_simp; rfl)); intro g7 hg7 W39 hbx7 hb7; have N69 : g6 ≠ g7 := (by have := blk_lt BX7.out; omega); have BX8 := Aside0.mk (blk_below BX7.out hb7); have BY8 := Aside0.mk hbx7; have HB8 := Aside0.mk (below_step HB7.out hb7); have HG7 := Aside0.mk (show w.heap.size ≤ g7 from by have := HB7.out.size; omega); have hz0 := (blk_cell hbx7 0).trans rfl; have hz1 := (blk_cell hbx7 1).trans rfl; have hy0 := blk_frozen hbx7 0; have hy1 := blk_frozen hbx7 1; clear hb7 hbx7 hg7 BX7 HB7)
    | ((with_reducible refine gate_store (t := 25) (p := 10) rfl ?_); refine store_event (t := 25) (p := 10) (v := .tmp 14) (w1 := ((W39.setCell ⟨g7, 0, none⟩ (.int .i64 0)).setCell ⟨g7, 1, none⟩ (.int .i64 0))) ?hg ?ho ?hn ?hr ?_; (case ho => rfl); (case hg => rfl); (case hn => rfl); (case hr => first | (go_simp; done) | (go_simp; rfl)); intro W49 hw4; have BX9 := Aside0.mk (show W49.heap[g6]? = some (.cells #[.int .i64 0, .int .i64 0] 25 (0, 0)) from by rw [hw4]; exact blk_far (blk_far BX8.out N69 _) N69 _); have BY9 := Aside0.mk (show W49.heap[g7]? = some (.cells #[.int .i64 0, .int .i64 0] 25 (0, 0)) from by rw [hw4]; exact boxed2 BY8.out); have HB9 := Aside0.mk (show Below w.heap.size w W49 from by rw [hw4]; exact below_set (below_set HB8.out HG7.out) HG7.out); clear hw4 hz0 hz1 hy0 hy1 BX8 BY8 HB8 HG7 ; have hq0 := (blk_cell BX9.out 0).trans rfl; have hq1 := (blk_cell BX9.out 1).trans rfl; have hp0 := blk_frozen BX9.out 0; have hp1 := blk_frozen BX9.out 1; have kq0 := (blk_cell BY9.out 0).trans rfl; have kq1 := (blk_cell BY9.out 1).trans rfl; have kp0 := blk_frozen BY9.out 0; have kp1 := blk_frozen BY9.out 1)
    | (go_at_call 28; (with_reducible show Calls Try.prog 28 #[.slice B b.length d, .int .i64 ((q : Nat) : Int)] _ _); refine (records_checkType.calls kb _ _ b ((q : Nat) : Int) 0 0 _ (Kd.C_below HD.out HB9.out) HDL.out HK2.out).mono ?_; rintro e W210 ⟨rfl, hb2⟩; have BX10 := Aside0.mk (blk_below BX9.out hb2); have HB10 := Aside0.mk (below_step HB9.out hb2); clear hb2 hq0 hq1 hp0 hp1)
    | ((with_reducible refine gate_dst (N := 11) rfl ?_); refine box_event ?hg (N := 11) ?hd (cs := #[.int .i64 0, .int .i64 0]) (t := 25) ?hr ?_; (case hd => rfl); (case hg => rfl); (case hr => first | (go_simp; done) | (go_simp; rfl)); intro g8 hg7 W312 hbx7 hb7; have N612 : g6 ≠ g8 := (by have := blk_lt BX10.out; omega); have BX8 := Aside0.mk (blk_below BX10.out hb7); have BY8 := Aside0.mk hbx7; have HB8 := Aside0.mk (below_step HB10.out hb7); have HG7 := Aside0.mk (show w.heap.size ≤ g8 from by have := HB10.out.size; omega); have hz0 := (blk_cell hbx7 0).trans rfl; have hz1 := (blk_cell hbx7 1).trans rfl; have hy0 := blk_frozen hbx7 0; have hy1 := blk_frozen hbx7 1; clear hb7 hbx7 hg7 BX10 HB10)
    | ((with_reducible refine gate_store (t := 25) (p := 11) rfl ?_); refine store_event (t := 25) (p := 11) (v := .tmp 21) (w1 := ((W312.setCell ⟨g8, 0, none⟩ (.int .i64 0)).setCell ⟨g8, 1, none⟩ (.int .i64 0))) ?hg ?ho ?hn ?hr ?_; (case ho => rfl); (case hg => rfl); (case hn => rfl); (case hr => first | (go_simp; done) | (go_simp; rfl)); intro W412 hw4; have BX12 := Aside0.mk (show W412.heap[g6]? = some (.cells #[.int .i64 0, .int .i64 0] 25 (0, 0)) from by rw [hw4]; exact blk_far (blk_far BX8.out N612 _) N612 _); have BY12 := Aside0.mk (show W412.heap[g8]? = some (.cells #[.int .i64 0, .int .i64 0] 25 (0, 0)) from by rw [hw4]; exact boxed2 BY8.out); have HB12 := Aside0.mk (show Below w.heap.size w W412 from by rw [hw4]; exact below_set (below_set HB8.out HG7.out) HG7.out); clear hw4 hz0 hz1 hy0 hy1 BX8 BY8 HB8 HG7 kq0 kq1 kp0 kp1 BY9; have hq0 := (blk_cell BX12.out 0).trans rfl; have hq1 := (blk_cell BX12.out 1).trans rfl; have hp0 := blk_frozen BX12.out 0; have hp1 := blk_frozen BX12.out 1; have kq0 := (blk_cell BY12.out 0).trans rfl; have kq1 := (blk_cell BY12.out 1).trans rfl; have kp0 := blk_frozen BY12.out 0; have kp1 := blk_frozen BY12.out 1)
    | (go_at_call 29; go_loud (refine (records_pairs.calls kp _ _ a _ _ b T _ (Kd.C_below HC.out HB12.out) HCL.out (Kd.C_below HD.out HB12.out) HDL.out HP.out).mono ?_; rintro e W13 ⟨v30, rfl, hs, hb2⟩; obtain ⟨AT, cT, eT⟩ := Kd.S_slice hs; subst eT; obtain ⟨ad, ai, ci, eA, hc1, hc2⟩ := tab_cells hs HT.out.2.1 m q HT.out.2.2.1 HT.out.2.2.2; subst eA; have BX13 := Aside0.mk (blk_below BX12.out hb2); have HB13 := Aside0.mk (below_step HB12.out hb2); clear hs hb2 hq0 hq1 hp0 hp1 kq0 kq1 kp0 kp1; have hq0 := (blk_cell BX13.out 0).trans rfl; have hq1 := (blk_cell BX13.out 1).trans rfl; have hp0 := blk_frozen BX13.out 0; have hp1 := blk_frozen BX13.out 1)))
   refine bodyPost_ret (results_list (rs := [.tmp 8, .cell 9 25]) rfl (by simp) (.tmp (.cell g6 25 #[.int .i64 0, .int .i64 0] (0, 0) _ rfl (boxed2 BX13.out) Try.underlying25 rfl (by kernel_rfl) .nil))) rfl ?_
   exact ⟨rfl, below_set (below_set HB13.out HG6.out) HG6.out⟩
end Go.Proofs.Ytpmlcmdojmdmhaa.PR
