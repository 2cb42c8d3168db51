/- records.pairs at two lists of types: it returns the table that the function 'records_pairs.f' tells. -/
import Derived.Test.YtpmlcmdojmdmhaaHTab
import Derived.Test.YtpmlcmdojmdmhaaHSim
import Derived.Test.YtpmlcmdojmdmhaaHPureA
set_option linter.unusedVariables false
set_option linter.unusedSimpArgs false
set_option maxRecDepth 100000
namespace Go.Proofs.Ytpmlcmdojmdmhaa.PR
open Go.RowKit Go.Proofs.YtpmlcmdojmdmhaaW.PrintWords Go.Proofs.YtpmlcmdojmdmhaaW.PrintLast Go.Proofs.YtpmlcmdojmdmhaaW.PrintMore
/-- similar at types of two lists. -/
def sim (k : Nat) (x y : S32) (T : List (List Bool)) : Option Bool := records_similar.f k x.f0 x.f1 x.f2 x.f3 x.f4 x.f5 y.f0 y.f1 y.f2 y.f3 y.f4 y.f5 T
def tabAt (T : List (List Bool)) (i q : Nat) : Bool := (T.getD i []).getD q false
def tabClear (T : List (List Bool)) (i q : Nat) : List (List Bool) := T.set i ((T.getD i []).set q false)
/-- One row: d columns are left, from q on. -/
def pr_row (k : Nat) (a b : List S32) (i : Nat) : Nat → Nat → List (List Bool) → Bool → Option (List (List Bool) × Bool)
 | 0, _, T, ch => some (T, ch)
 | d + 1, q, T, ch => if tabAt T i q = true then (sim k (rd_T32 a i) (rd_T32 b q) T).bind fun s => (if s = true then pr_row k a b i d (q + 1) T ch else pr_row k a b i d (q + 1) (tabClear T i q) true) else pr_row k a b i d (q + 1) T ch
/-- One round: d rows are left, from i on. -/
def pr_all (k : Nat) (a b : List S32) : Nat → Nat → List (List Bool) → Bool → Option (List (List Bool) × Bool)
 | 0, _, T, ch => some (T, ch)
 | d + 1, i, T, ch => (pr_row k a b i b.length 0 T ch).bind fun s => pr_all k a b d (i + 1) s.1 s.2
def pr_loop (a b : List S32) : Nat → List (List Bool) → Option (List (List Bool))
 | 0, _ => none
 | k + 1, T => (pr_all k a b a.length 0 T false).bind fun s => if s.2 = true then pr_loop a b k s.1 else some s.1
def records_pairs.f (k : Nat) (a b : List S32) : Option (List (List Bool)) := if a.length ≤ 1000 ∧ b.length ≤ 1000 then pr_loop a b k (List.replicate a.length (List.replicate b.length true)) else none
/-- Every row of the table is m long. -/
def Wide (m : Nat) (T : List (List Bool)) : Prop := ∀ row ∈ T, row.length = m
theorem Wide.at {m : Nat} {T : List (List Bool)} (h : Wide m T) {i : Nat} (hi : i < T.length) : (T.getD i []).length = m := by
 rw [List.getD_eq_getElem?_getD, List.getElem?_eq_getElem hi]
 exact h _ (List.getElem_mem hi)
theorem Wide.clear {m : Nat} {T : List (List Bool)} (h : Wide m T) {i : Nat} (hi : i < T.length) (q : Nat) : Wide m (tabClear T i q) := fun row hr => by
 rcases List.mem_or_eq_of_mem_set hr with h1 | h1
 · exact h row h1
 · rw [h1, List.length_set]; exact h.at hi
/-- The cells of a type's box, written. -/
theorem boxed6 {W : World} {g : Nat} {z0 z1 z2 z3 z4 z5 v0 v1 v2 v3 v4 v5 : Value} (h : W.heap[g]? = some (.cells #[z0, z1, z2, z3, z4, z5] 32 (0, 0))) :
 ((((((W.setCell ⟨g, 0, none⟩ v0).setCell ⟨g, 1, none⟩ v1).setCell ⟨g, 2, none⟩ v2).setCell ⟨g, 3, none⟩ v3).setCell ⟨g, 4, none⟩ v4).setCell ⟨g, 5, none⟩ v5).heap[g]? = some (.cells #[v0, v1, v2, v3, v4, v5] 32 (0, 0)) :=
 blk_put (blk_put (blk_put (blk_put (blk_put (blk_put h 0 v0 rfl) 1 v1 rfl) 2 v2 rfl) 3 v3 rfl) 4 v4 rfl) 5 v5 rfl
theorem info56 : (Try.prog.info? 56).map (fun i => (i.zero, i.size, i.bytes)) = some (some (.slice none 0 0), 1, 24) := by kernel_rfl
set_option maxHeartbeats 3000000 in
theorem records_pairs.calls (k : Nat) (A0 : Option Addr) (c0 : Nat) (l0 : List S32) (A1 : Option Addr) (c1 : Nat) (l1 : List S32) (r : List (List Bool)) (w : World) (hr0 : Kd.C k32 w A0 l0.length l0) (hc0 : l0.length ≤ c0) (hr1 : Kd.C k32 w A1 l1.length l1) (hc1 : l1.length ≤ c1)
 (h : records_pairs.f k l0 l1 = some r) :
 Calls Try.prog 29 #[.slice A0 l0.length c0, .slice A1 l1.length c1] w fun e w' => ∃ v, e = .returned v ∧ Kd.S (Kd.slice 4 Kd.bool) 56 w' w.heap.size (fun _ => True) v r ∧ Below w.heap.size w w' := by
 have HR0 := Aside0.mk hr0
 have HC0 := Aside0.mk hc0
 have HR1 := Aside0.mk hr1
 have HC1 := Aside0.mk hc1
 clear hr0 hc0 hr1 hc1
 unfold records_pairs.f at h
 split at h
 case isFalse => cases h
 case isTrue hle =>
 obtain ⟨hle0, hle1⟩ := hle
 have H0 := Aside0.mk h
 clear h
 go_enter Try.func29, Try.ntmps29
 go_wp2_with (first
  | ((with_reducible refine gate_dst (N := 15) rfl ?_); refine Kd.S_make (Kd.slice 4 Kd.bool) (w0 := w) w.heap.size 56 rfl (N := 15) rfl 57 _ _ rfl (l0.length : Int) rfl rfl Try.underlying57 (.slice none 0 0) 24 info56 rfl (Nat.lt_succ_self 0) (by omega) ([] : List Bool) (ok := fun _ => True) (okp := fun _ => True) ⟨_, rfl, Kd.R_nil _ _ _ _ _⟩ (fun _ hk => hk) trivial (by omega) (by omega) (Below.refl _ _) (Nat.le_refl _) ?_; intro v15 W3 ho3 hb3 hg3 hat3; clear hg3; go_loud (obtain ⟨g0, c, rfl⟩ := own_formS ho3 hat3); go_loud (rw [Int.toNat_natCast] at ho3); have HO3 := Aside0.mk ho3; have HB3 := Aside0.mk hb3; clear ho3 hb3 hat3)
  | ((with_reducible refine gate_dst (N := 5) rfl ?_); refine box_event ?hg (N := 5) ?hd (cs := #[.slice none 0 0]) (t := 57) ?hr ?_; (case hd => rfl); (case hg => rfl); (case hr => first | (go_simp; done) | (go_simp; rfl)); intro g hg W4 hbox hb4; have HT := TabAt.new HO3.out HB3.out hg hbox hb4; have hcz := blk_cell hbox 0; have hfz := blk_frozen hbox 0; have HT4 := Aside0.mk HT; clear HT hbox hb4 hg)
  | ((with_reducible refine gate_store (t := 57) (p := 5) rfl ?_); refine store_event (t := 57) (p := 5) (v := .tmp 15) (w1 := (W4.setCell ⟨g, 0, none⟩ (.slice (some ⟨g0, 0, none⟩) (List.replicate l0.length ([] : List Bool)).length c))) ?hg ?ho ?hn ?hr ?_; (case ho => rfl); (case hg => rfl); (case hn => rfl); (case hr => first | (go_simp; done) | (go_simp; rfl)); intro W5 hw5; have HT := Aside0.mk (show TabAt w W5 g g0 c (List.replicate l0.length []) by rw [hw5]; exact HT4.out); have hcell := HT.out.cell; clear hw5 hcz hfz HT4 HO3 HB3))
 go_loopg [18] l0.length (fun kq v18 w' => ∃ i : Nat, v18 = .int .i64 (i : Int) ∧ Aside0 (i + kq = l0.length) ∧ Aside0 (TabAt w w' g g0 c (List.replicate i (List.replicate l1.length true) ++ List.replicate (l0.length - i) [])))
 case atStart => exact ⟨0, rfl, ⟨by omega⟩, by simpa using HT⟩
 case round =>
  clear HT hcell
  obtain ⟨i, rfl, HI, HT⟩ := hrel
  have hlen : (List.replicate i (List.replicate l1.length true) ++ List.replicate (l0.length - i) ([] : List Bool)).length = l0.length := by
   have := HI.out
   simp
   omega
  by_cases hlt : i < l0.length
  · have d1 : decide ((i : Int) < (l0.length : Int)) = true := decide_eq_true (by omega)
    have d2 : decide ((0 : Int) ≤ (i : Int)) = true := decide_eq_true (by omega)
    have d3 : (0 : Int) ≤ (i : Int) := by omega
    have d4 : (i : Int) < (l0.length : Int) := by omega
    have hcell := HT.out.cell
    rw [hlen] at hcell
    obtain ⟨u0, hu0⟩ := HT.out.cell0 i (by omega)
    have hgg := HT.out.g0_ne
    have hg0l := HT.out.g0_lt
    have hgl := blk_lt HT.out.box
    have hf0 := HT.out.frozen0 i
    go_wp2
    go_region_held3 (fun w' => w'.cell? ⟨g, 0, none⟩ = some (.slice (some ⟨g0, 0, none⟩) l0.length c)) (first | go_keep | exact hcell6 | (rw [World.cell?_setCell_other _ _ _ _ (fun e => hgg (by injection e with e; exact e.symm))]; exact hcell6))
     (first | (go_at_call 36; refine (repeat_calls _ wr.heap.size l1.length (by omega) ((blk_cell (blk_drew (blk_new wr _)) 0).trans rfl)).mono ?_; rintro e w6 ⟨v6, rfl, hr6, ⟨kk, hk6⟩, hb6⟩; obtain ⟨gi, ci, rfl, _⟩ := own_form (m := 0) hr6 ⟨kk, hk6, Nat.zero_le _⟩; have hB6 : Below wr.heap.size wr w6 := below_then (below_drew (below_alloc (Below.refl _ _) _)) (by simp) hb6; have hcell6 : w6.cell? ⟨g, 0, none⟩ = some (.slice (some ⟨g0, 0, none⟩) l0.length c) := pw_cell_below hB6 hcell; have hu6 : w6.cell? ⟨g0, i, none⟩ = some u0 := pw_cell_below hB6 hu0; have hf6 : w6.frozen? ⟨g0, i, none⟩ = false := (HT.out.step hB6).frozen0 i; have HR6 := Aside0.mk hr6; have HB6 := Aside0.mk hB6; clear hr6 hb6 hB6))
    go_wp2
    go_roundg (l0.length - (i + 1))
    case measure => have := HI.out; omega
    case rel =>
     refine ⟨i + 1, rfl, ⟨by omega⟩, ⟨?_⟩⟩
     have hr := HR6.out
     rw [List.length_replicate] at hr
     have h := HT.out.put i (by omega) (Kd.R_lower hr (by show wr.heap.size ≤ (wr.alloc _).heap.size; simp)) HB6.out
     have e : (List.replicate i (List.replicate l1.length true) ++ List.replicate (l0.length - i) ([] : List Bool)).set i (List.replicate l1.length true) = List.replicate (i + 1) (List.replicate l1.length true) ++ List.replicate (l0.length - (i + 1)) [] := by
      rw [List.set_append_right _ _ (by simp), List.length_replicate, Nat.sub_self, show l0.length - i = (l0.length - (i + 1)) + 1 by omega, List.replicate_succ, List.set_cons_zero, List.replicate_succ', List.append_assoc]
      rfl
     rw [e] at h
     exact h
  · have d1 : decide ((i : Int) < (l0.length : Int)) = false := decide_eq_false (by omega)
    obtain rfl : i = l0.length := by have := HI.out; omega
    have HT0 : Aside0 (TabAt w wr g g0 c (List.replicate l0.length (List.replicate l1.length true))) := ⟨by simpa using HT.out⟩
    clear HT HI hlen hlt d1
    go_wp2
    go_loopg [8] k (fun kq v8 w' => ∃ (T : List (List Bool)) (ch : Bool), v8 = .bool ch ∧ Aside0 (T.length = l0.length ∧ Wide l1.length T) ∧ Aside0 (if ch = true then pr_loop l0 l1 kq T = some r else T = r) ∧ Aside0 (TabAt w w' g g0 c T))
    case atStart => exact ⟨_, true, rfl, ⟨by simp, fun row hr => by rw [List.eq_of_mem_replicate hr]; simp⟩, ⟨by simpa using H0.out⟩, HT0⟩
    case round =>
     clear HT0 H0
     obtain ⟨T, ch, rfl, HW, HA, HT⟩ := hrel
     cases ch with
     | false =>
      have hcell := HT.out.cell
      go_wp2
      go_ret
      have e : T = r := by simpa using HA.out
      subst e
      exact ⟨_, rfl, Kd.S_mono HT.out.row (fun _ _ => trivial), HT.out.bel⟩
     | true =>
      cases gk with
      | zero => exact absurd HA.out (by simp [pr_loop])
      | succ k1 =>
       obtain ⟨⟨T1, ch1⟩, A1', H1'⟩ := Option.bind_eq_some_iff.mp (show (pr_all k1 l0 l1 l0.length 0 T false).bind (fun s => if s.2 = true then pr_loop l0 l1 k1 s.1 else some s.1) = some r from by simpa [pr_loop] using HA.out)
       have HP1 := Aside0.mk A1'
       have HL1 : Aside0 (if ch1 = true then pr_loop l0 l1 k1 T1 = some r else T1 = r) := ⟨by cases ch1 <;> simpa using H1'⟩
       clear A1' H1' HA
       go_wp2
       go_loopg [8, 33] l0.length (fun kq v8 v33 w' => ∃ (T2 : List (List Bool)) (ch2 : Bool) (i : Nat), v8 = .bool ch2 ∧ v33 = .int .i64 (i : Int) ∧ Aside0 (i + kq = l0.length) ∧ Aside0 (T2.length = l0.length ∧ Wide l1.length T2) ∧ Aside0 (pr_all k1 l0 l1 kq i T2 ch2 = some (T1, ch1)) ∧ Aside0 (TabAt w w' g g0 c T2))
       case atStart => exact ⟨T, false, 0, rfl, rfl, ⟨by omega⟩, HW, HP1, HT⟩
       case round =>
        clear HT HW HP1
        obtain ⟨T2, ch2, i, rfl, rfl, HI, HW2, HP2, HT2⟩ := hrel
        cases gk with
        | zero =>
         obtain rfl : i = l0.length := by have := HI.out; omega
         have e : T2 = T1 ∧ ch2 = ch1 := by have := HP2.out; simpa [pr_all] using this
         obtain ⟨rfl, rfl⟩ := e
         have d1 : decide ((l0.length : Int) < (l0.length : Int)) = false := decide_eq_false (by omega)
         go_wp2
         go_roundg k1
         case measure => omega
         case rel => exact ⟨T2, ch2, rfl, HW2, HL1, HT2⟩
        | succ dd =>
         have hlt : i < l0.length := by have := HI.out; omega
         obtain ⟨⟨T3, ch3⟩, A3', H3'⟩ := Option.bind_eq_some_iff.mp (show (pr_row k1 l0 l1 i l1.length 0 T2 ch2).bind (fun s => pr_all k1 l0 l1 dd (i + 1) s.1 s.2) = some (T1, ch1) from by simpa [pr_all] using HP2.out)
         have HP3 := Aside0.mk A3'
         have HL3 : Aside0 (pr_all k1 l0 l1 dd (i + 1) T3 ch3 = some (T1, ch1)) := ⟨H3'⟩
         clear A3' H3' HP2
         obtain ⟨ad, Ax, cx, ex, hx0, hx1, hx2, hx3, hx4, hx5, hlx, hix⟩ := at_T32 HR0.out (i : Int) (by omega) (by omega)
         cases ex
         simp only [Int.toNat_natCast] at hx0 hx1 hx2 hx3 hx4 hx5
         replace hx0 := (HT2.out.bel.cell (World.block_lt_of_cell? w _ hx0)).trans hx0
         replace hx1 := (HT2.out.bel.cell (World.block_lt_of_cell? w _ hx1)).trans hx1
         replace hx2 := (HT2.out.bel.cell (World.block_lt_of_cell? w _ hx2)).trans hx2
         replace hx3 := (HT2.out.bel.cell (World.block_lt_of_cell? w _ hx3)).trans hx3
         replace hx4 := (HT2.out.bel.cell (World.block_lt_of_cell? w _ hx4)).trans hx4
         replace hx5 := (HT2.out.bel.cell (World.block_lt_of_cell? w _ hx5)).trans hx5
         have HLX := Aside0.mk hlx
         have HIX := Aside0.mk hix
         clear hlx hix
         have d1 : decide ((i : Int) < (l0.length : Int)) = true := decide_eq_true (by omega)
         have d2 : decide ((0 : Int) ≤ (i : Int)) = true := decide_eq_true (by omega)
         have d3 : ((0 : Int) ≤ (i : Int)) = True := eq_true (by omega)
         have d4 : ((i : Int) < (l0.length : Int)) = True := eq_true (by omega)
         go_wp2_with (first
         | ((with_reducible refine gate_dst (N := 10) rfl ?_); refine box_event ?hg (N := 10) ?hd (cs := #[.int .i64 0, .string (⟨#[]⟩ : ByteArray), .int .i64 0, .int .i64 0, .int .i64 0, .slice none 0 0]) (t := 32) ?hr ?_; (case hd => rfl); (case hg => rfl); (case hr => first | (go_simp; done) | (go_simp; rfl)); intro gx hgb W7 hbx hb7; have hz0 := (blk_cell hbx 0).trans rfl; have hz1 := (blk_cell hbx 1).trans rfl; have hz2 := (blk_cell hbx 2).trans rfl; have hz3 := (blk_cell hbx 3).trans rfl; have hz4 := (blk_cell hbx 4).trans rfl; have hz5 := (blk_cell hbx 5).trans rfl; have hy0 := blk_frozen hbx 0; have hy1 := blk_frozen hbx 1; have hy2 := blk_frozen hbx 2; have hy3 := blk_frozen hbx 3; have hy4 := blk_frozen hbx 4; have hy5 := blk_frozen hbx 5; have HBX := Aside0.mk hbx; have HB7 := Aside0.mk hb7; have HGB := Aside0.mk hgb; clear hbx hb7 hgb)
         | ((with_reducible refine gate_store (t := 32) (p := 10) rfl ?_); refine store_event (t := 32) (p := 10) (v := .tmp 37) (w1 := ((((((W7.setCell ⟨gx, 0, none⟩ (.int .i64 (rd_T32 l0 (i : Int)).f0)).setCell ⟨gx, 1, none⟩ (.string (rd_T32 l0 (i : Int)).f1)).setCell ⟨gx, 2, none⟩ (.int .i64 (rd_T32 l0 (i : Int)).f2)).setCell ⟨gx, 3, none⟩ (.int .i64 (rd_T32 l0 (i : Int)).f3)).setCell ⟨gx, 4, none⟩ (.int .i64 (rd_T32 l0 (i : Int)).f4)).setCell ⟨gx, 5, none⟩ (.slice Ax (rd_T32 l0 (i : Int)).f5.length cx))) ?hg ?ho ?hn ?hr ?_; (case ho => rfl); (case hg => rfl); (case hn => rfl); (case hr => first | (go_simp; done) | (go_simp; rfl)); intro W8 hw8; have BX : Aside0 (W8.heap[gx]? = some (.cells #[.int .i64 (rd_T32 l0 (i : Int)).f0, .string (rd_T32 l0 (i : Int)).f1, .int .i64 (rd_T32 l0 (i : Int)).f2, .int .i64 (rd_T32 l0 (i : Int)).f3, .int .i64 (rd_T32 l0 (i : Int)).f4, .slice Ax (rd_T32 l0 (i : Int)).f5.length cx] 32 (0, 0))) := ⟨by rw [hw8]; exact boxed6 HBX.out⟩; have HB8 : Aside0 (Below wr.heap.size wr W8) := ⟨by rw [hw8]; (repeat refine below_set ?_ (Nat.le_of_eq HGB.out.symm)); exact HB7.out⟩; clear hw8 hz0 hz1 hz2 hz3 hz4 hz5 hy0 hy1 hy2 hy3 hy4 hy5 HBX HB7))
         have HT8 := Aside0.mk (HT2.out.step HB8.out)
         have HXL := Aside0.mk (show w.heap.size ≤ gx from by have := HGB.out; have := HT2.out.bel.size; omega)
         clear HT2 HB8 HGB
         clear hx0 hx1 hx2 hx3 hx4 hx5
         go_loopg [8, 40] l1.length (fun kq v8 v40 w' => ∃ (T4 : List (List Bool)) (ch4 : Bool) (q : Nat), v8 = .bool ch4 ∧ v40 = .int .i64 (q : Int) ∧ Aside0 (q + kq = l1.length) ∧ Aside0 (T4.length = l0.length ∧ Wide l1.length T4) ∧ Aside0 (pr_row k1 l0 l1 i kq q T4 ch4 = some (T3, ch3)) ∧ Aside0 (TabAt w w' g g0 c T4) ∧
          Aside0 (w'.heap[gx]? = some (.cells #[.int .i64 (rd_T32 l0 (i : Int)).f0, .string (rd_T32 l0 (i : Int)).f1, .int .i64 (rd_T32 l0 (i : Int)).f2, .int .i64 (rd_T32 l0 (i : Int)).f3, .int .i64 (rd_T32 l0 (i : Int)).f4, .slice Ax (rd_T32 l0 (i : Int)).f5.length cx] 32 (0, 0))))
         case atStart => exact ⟨T2, ch2, 0, rfl, rfl, ⟨by omega⟩, HW2, HP3, HT8, BX⟩
         case round =>
          clear HT8 BX HW2 HP3
          obtain ⟨T4, ch4, q, rfl, rfl, HQ, HW4, HP4, HT4, BX⟩ := hrel
          cases gk with
          | zero =>
           obtain rfl : q = l1.length := by have := HQ.out; omega
           have e : T4 = T3 ∧ ch4 = ch3 := by have := HP4.out; simpa [pr_row] using this
           obtain ⟨rfl, rfl⟩ := e
           have d5 : decide ((l1.length : Int) < (l1.length : Int)) = false := decide_eq_false (by omega)
           go_wp2
           go_roundg dd
           case measure => omega
           case rel => exact ⟨T4, ch4, i + 1, rfl, rfl, ⟨by have := HI.out; omega⟩, HW4, HL3, HT4⟩
          | succ d2 =>
           have hlq : q < l1.length := by have := HQ.out; omega
           obtain ⟨bd, Ay, cy, ey, hx0, hx1, hx2, hx3, hx4, hx5, hly, hiy⟩ := at_T32 HR1.out (q : Int) (by omega) (by omega)
           cases ey
           simp only [Int.toNat_natCast] at hx0 hx1 hx2 hx3 hx4 hx5
           replace hx0 := (HT4.out.bel.cell (World.block_lt_of_cell? w _ hx0)).trans hx0
           replace hx1 := (HT4.out.bel.cell (World.block_lt_of_cell? w _ hx1)).trans hx1
           replace hx2 := (HT4.out.bel.cell (World.block_lt_of_cell? w _ hx2)).trans hx2
           replace hx3 := (HT4.out.bel.cell (World.block_lt_of_cell? w _ hx3)).trans hx3
           replace hx4 := (HT4.out.bel.cell (World.block_lt_of_cell? w _ hx4)).trans hx4
           replace hx5 := (HT4.out.bel.cell (World.block_lt_of_cell? w _ hx5)).trans hx5
           have HLY := Aside0.mk hly
           have HIY := Aside0.mk hiy
           clear hly hiy
           have d5 : decide ((q : Int) < (l1.length : Int)) = true := decide_eq_true (by omega)
           have d6 : decide ((0 : Int) ≤ (q : Int)) = true := decide_eq_true (by omega)
           have d7 : ((0 : Int) ≤ (q : Int)) = True := eq_true (by omega)
           have d8 : ((q : Int) < (l1.length : Int)) = True := eq_true (by omega)
           by_cases htv : tabAt T4 i q = true
           · obtain ⟨s, S1', S2'⟩ := Option.bind_eq_some_iff.mp (show (sim k1 (rd_T32 l0 (i : Int)) (rd_T32 l1 (q : Int)) T4).bind (fun s => if s = true then pr_row k1 l0 l1 i d2 (q + 1) T4 ch4 else pr_row k1 l0 l1 i d2 (q + 1) (tabClear T4 i q) true) = some (T3, ch3) from by have := HP4.out; rw [pr_row, if_pos htv] at this; exact this)
             have S1 := Aside0.mk S1'
             have S2 := Aside0.mk S2'
             clear S1' S2' HP4
             cases s with
             | true =>
              replace S2 : Aside0 (pr_row k1 l0 l1 i d2 (q + 1) T4 ch4 = some (T3, ch3)) := ⟨by simpa using S2.out⟩
              go_wp2_with (first
              | ((with_reducible refine gate_dst (N := 12) rfl ?_); refine box_event ?hg (N := 12) ?hd (cs := #[.int .i64 0, .string (⟨#[]⟩ : ByteArray), .int .i64 0, .int .i64 0, .int .i64 0, .slice none 0 0]) (t := 32) ?hr ?_; (case hd => rfl); (case hg => rfl); (case hr => first | (go_simp; done) | (go_simp; rfl)); intro gy hgb W7 hbx hb7; have hz0 := (blk_cell hbx 0).trans rfl; have hz1 := (blk_cell hbx 1).trans rfl; have hz2 := (blk_cell hbx 2).trans rfl; have hz3 := (blk_cell hbx 3).trans rfl; have hz4 := (blk_cell hbx 4).trans rfl; have hz5 := (blk_cell hbx 5).trans rfl; have hy0 := blk_frozen hbx 0; have hy1 := blk_frozen hbx 1; have hy2 := blk_frozen hbx 2; have hy3 := blk_frozen hbx 3; have hy4 := blk_frozen hbx 4; have hy5 := blk_frozen hbx 5; have HBX := Aside0.mk hbx; have HB7 := Aside0.mk hb7; have HGB := Aside0.mk hgb; clear hbx hb7 hgb)
              | ((with_reducible refine gate_store (t := 32) (p := 12) rfl ?_); refine store_event (t := 32) (p := 12) (v := .tmp 44) (w1 := ((((((W7.setCell ⟨gy, 0, none⟩ (.int .i64 (rd_T32 l1 (q : Int)).f0)).setCell ⟨gy, 1, none⟩ (.string (rd_T32 l1 (q : Int)).f1)).setCell ⟨gy, 2, none⟩ (.int .i64 (rd_T32 l1 (q : Int)).f2)).setCell ⟨gy, 3, none⟩ (.int .i64 (rd_T32 l1 (q : Int)).f3)).setCell ⟨gy, 4, none⟩ (.int .i64 (rd_T32 l1 (q : Int)).f4)).setCell ⟨gy, 5, none⟩ (.slice Ay (rd_T32 l1 (q : Int)).f5.length cy))) ?hg ?ho ?hn ?hr ?_; (case ho => rfl); (case hg => rfl); (case hn => rfl); (case hr => first | (go_simp; done) | (go_simp; rfl)); intro W8 hw8; have BY : Aside0 (W8.heap[gy]? = some (.cells #[.int .i64 (rd_T32 l1 (q : Int)).f0, .string (rd_T32 l1 (q : Int)).f1, .int .i64 (rd_T32 l1 (q : Int)).f2, .int .i64 (rd_T32 l1 (q : Int)).f3, .int .i64 (rd_T32 l1 (q : Int)).f4, .slice Ay (rd_T32 l1 (q : Int)).f5.length cy] 32 (0, 0))) := ⟨by rw [hw8]; exact boxed6 HBX.out⟩; have HB8 : Aside0 (Below wr.heap.size wr W8) := ⟨by rw [hw8]; (repeat refine below_set ?_ (Nat.le_of_eq HGB.out.symm)); exact HB7.out⟩; clear hw8 hz0 hz1 hz2 hz3 hz4 hz5 hy0 hy1 hy2 hy3 hy4 hy5 HBX HB7; have HT5 := Aside0.mk (HT4.out.step HB8.out); have BX5 := Aside0.mk (blk_below BX.out HB8.out); obtain ⟨gi5, ci5, hcr5, hcq5, hfq5, ⟨cl5, hgc5⟩, htc5⟩ := HT5.out.at i q (by have := HW4.out.1; omega) (by rw [HW4.out.2.at (by have := HW4.out.1; omega)]; exact hlq); (rw [HW4.out.2.at (by have := HW4.out.1; omega)] at hcr5); (rw [show (T4.getD i []).getD q false = true from htv] at hcq5); have hcell5 := HT5.out.cell; (rw [HW4.out.1] at hcell5); have HTC5 := Aside0.mk htc5; have HGC5 := Aside0.mk hgc5; clear htc5 hgc5; have hX0 := (blk_cell BX5.out 0).trans rfl; have hY0 := (blk_cell BY.out 0).trans rfl; have hX1 := (blk_cell BX5.out 1).trans rfl; have hY1 := (blk_cell BY.out 1).trans rfl; have hX2 := (blk_cell BX5.out 2).trans rfl; have hY2 := (blk_cell BY.out 2).trans rfl; have hX3 := (blk_cell BX5.out 3).trans rfl; have hY3 := (blk_cell BY.out 3).trans rfl; have hX4 := (blk_cell BX5.out 4).trans rfl; have hY4 := (blk_cell BY.out 4).trans rfl; have hX5 := (blk_cell BX5.out 5).trans rfl; have hY5 := (blk_cell BY.out 5).trans rfl)
              | (go_at_call 38; refine (records_similar.calls k1 _ _ _ _ _ Ax cx (rd_T32 l0 (i : Int)).f5 _ _ _ _ _ Ay cy (rd_T32 l1 (q : Int)).f5 (some ⟨g0, 0, none⟩) c T4 g true _ (Kd.C_below HIX.out HT5.out.bel) HLX.out (Kd.C_below HIY.out HT5.out.bel) HLY.out HT5.out.reads.2 HT5.out.reads.1 HT5.out.box S1.out).mono ?_; rintro e w9 ⟨rfl, hb9⟩; have HB9 := Aside0.mk hb9; clear hb9; have HT9 := Aside0.mk (HT5.out.step HB9.out); have BX9 := Aside0.mk (blk_below BX5.out HB9.out); obtain ⟨gi9, ci9, hcr9, hcq9, hfq9, ⟨cl9, hgc9⟩, htc9⟩ := HT9.out.at i q (by have := HW4.out.1; omega) (by rw [HW4.out.2.at (by have := HW4.out.1; omega)]; exact hlq); (rw [HW4.out.2.at (by have := HW4.out.1; omega)] at hcr9); (rw [show (T4.getD i []).getD q false = true from htv] at hcq9); have hcell9 := HT9.out.cell; (rw [HW4.out.1] at hcell9); have HTC9 := Aside0.mk htc9; have HGC9 := Aside0.mk hgc9; clear htc9 hgc9))
              go_roundg d2
              case measure => omega
              case rel => exact ⟨T4, ch4, q + 1, rfl, rfl, ⟨by have := HQ.out; omega⟩, HW4, S2, HT9, BX9⟩
             | false =>
              replace S2 : Aside0 (pr_row k1 l0 l1 i d2 (q + 1) (tabClear T4 i q) true = some (T3, ch3)) := ⟨by simpa using S2.out⟩
              go_wp2_with (first
              | ((with_reducible refine gate_dst (N := 12) rfl ?_); refine box_event ?hg (N := 12) ?hd (cs := #[.int .i64 0, .string (⟨#[]⟩ : ByteArray), .int .i64 0, .int .i64 0, .int .i64 0, .slice none 0 0]) (t := 32) ?hr ?_; (case hd => rfl); (case hg => rfl); (case hr => first | (go_simp; done) | (go_simp; rfl)); intro gy hgb W7 hbx hb7; have hz0 := (blk_cell hbx 0).trans rfl; have hz1 := (blk_cell hbx 1).trans rfl; have hz2 := (blk_cell hbx 2).trans rfl; have hz3 := (blk_cell hbx 3).trans rfl; have hz4 := (blk_cell hbx 4).trans rfl; have hz5 := (blk_cell hbx 5).trans rfl; have hy0 := blk_frozen hbx 0; have hy1 := blk_frozen hbx 1; have hy2 := blk_frozen hbx 2; have hy3 := blk_frozen hbx 3; have hy4 := blk_frozen hbx 4; have hy5 := blk_frozen hbx 5; have HBX := Aside0.mk hbx; have HB7 := Aside0.mk hb7; have HGB := Aside0.mk hgb; clear hbx hb7 hgb)
              | ((with_reducible refine gate_store (t := 32) (p := 12) rfl ?_); refine store_event (t := 32) (p := 12) (v := .tmp 44) (w1 := ((((((W7.setCell ⟨gy, 0, none⟩ (.int .i64 (rd_T32 l1 (q : Int)).f0)).setCell ⟨gy, 1, none⟩ (.string (rd_T32 l1 (q : Int)).f1)).setCell ⟨gy, 2, none⟩ (.int .i64 (rd_T32 l1 (q : Int)).f2)).setCell ⟨gy, 3, none⟩ (.int .i64 (rd_T32 l1 (q : Int)).f3)).setCell ⟨gy, 4, none⟩ (.int .i64 (rd_T32 l1 (q : Int)).f4)).setCell ⟨gy, 5, none⟩ (.slice Ay (rd_T32 l1 (q : Int)).f5.length cy))) ?hg ?ho ?hn ?hr ?_; (case ho => rfl); (case hg => rfl); (case hn => rfl); (case hr => first | (go_simp; done) | (go_simp; rfl)); intro W8 hw8; have BY : Aside0 (W8.heap[gy]? = some (.cells #[.int .i64 (rd_T32 l1 (q : Int)).f0, .string (rd_T32 l1 (q : Int)).f1, .int .i64 (rd_T32 l1 (q : Int)).f2, .int .i64 (rd_T32 l1 (q : Int)).f3, .int .i64 (rd_T32 l1 (q : Int)).f4, .slice Ay (rd_T32 l1 (q : Int)).f5.length cy] 32 (0, 0))) := ⟨by rw [hw8]; exact boxed6 HBX.out⟩; have HB8 : Aside0 (Below wr.heap.size wr W8) := ⟨by rw [hw8]; (repeat refine below_set ?_ (Nat.le_of_eq HGB.out.symm)); exact HB7.out⟩; clear hw8 hz0 hz1 hz2 hz3 hz4 hz5 hy0 hy1 hy2 hy3 hy4 hy5 HBX HB7; have HT5 := Aside0.mk (HT4.out.step HB8.out); have BX5 := Aside0.mk (blk_below BX.out HB8.out); obtain ⟨gi5, ci5, hcr5, hcq5, hfq5, ⟨cl5, hgc5⟩, htc5⟩ := HT5.out.at i q (by have := HW4.out.1; omega) (by rw [HW4.out.2.at (by have := HW4.out.1; omega)]; exact hlq); (rw [HW4.out.2.at (by have := HW4.out.1; omega)] at hcr5); (rw [show (T4.getD i []).getD q false = true from htv] at hcq5); have hcell5 := HT5.out.cell; (rw [HW4.out.1] at hcell5); have HTC5 := Aside0.mk htc5; have HGC5 := Aside0.mk hgc5; clear htc5 hgc5; have hX0 := (blk_cell BX5.out 0).trans rfl; have hY0 := (blk_cell BY.out 0).trans rfl; have hX1 := (blk_cell BX5.out 1).trans rfl; have hY1 := (blk_cell BY.out 1).trans rfl; have hX2 := (blk_cell BX5.out 2).trans rfl; have hY2 := (blk_cell BY.out 2).trans rfl; have hX3 := (blk_cell BX5.out 3).trans rfl; have hY3 := (blk_cell BY.out 3).trans rfl; have hX4 := (blk_cell BX5.out 4).trans rfl; have hY4 := (blk_cell BY.out 4).trans rfl; have hX5 := (blk_cell BX5.out 5).trans rfl; have hY5 := (blk_cell BY.out 5).trans rfl)
              | (go_at_call 38; refine (records_similar.calls k1 _ _ _ _ _ Ax cx (rd_T32 l0 (i : Int)).f5 _ _ _ _ _ Ay cy (rd_T32 l1 (q : Int)).f5 (some ⟨g0, 0, none⟩) c T4 g false _ (Kd.C_below HIX.out HT5.out.bel) HLX.out (Kd.C_below HIY.out HT5.out.bel) HLY.out HT5.out.reads.2 HT5.out.reads.1 HT5.out.box S1.out).mono ?_; rintro e w9 ⟨rfl, hb9⟩; have HB9 := Aside0.mk hb9; clear hb9; have HT9 := Aside0.mk (HT5.out.step HB9.out); have BX9 := Aside0.mk (blk_below BX5.out HB9.out); obtain ⟨gi9, ci9, hcr9, hcq9, hfq9, ⟨cl9, hgc9⟩, htc9⟩ := HT9.out.at i q (by have := HW4.out.1; omega) (by rw [HW4.out.2.at (by have := HW4.out.1; omega)]; exact hlq); (rw [HW4.out.2.at (by have := HW4.out.1; omega)] at hcr9); (rw [show (T4.getD i []).getD q false = true from htv] at hcq9); have hcell9 := HT9.out.cell; (rw [HW4.out.1] at hcell9); have HTC9 := Aside0.mk htc9; have HGC9 := Aside0.mk hgc9; clear htc9 hgc9))
              go_roundg d2
              case measure => omega
              case rel => exact ⟨tabClear T4 i q, true, q + 1, rfl, rfl, ⟨by have := HQ.out; omega⟩, ⟨by rw [tabClear, List.length_set]; exact HW4.out.1, HW4.out.2.clear (by have := HW4.out.1; omega) q⟩, S2, HTC9, ⟨blk_far BX9.out (blk_ne BX9.out HGC9.out (by decide)) _⟩⟩
           · have htf : tabAt T4 i q = false := by simpa using htv
             clear htv
             have htv := htf
             have S2 : Aside0 (pr_row k1 l0 l1 i d2 (q + 1) T4 ch4 = some (T3, ch3)) := ⟨by have := HP4.out; rwa [pr_row, if_neg (by rw [htf]; simp)] at this⟩
             go_wp2_with (first
              | ((with_reducible refine gate_dst (N := 12) rfl ?_); refine box_event ?hg (N := 12) ?hd (cs := #[.int .i64 0, .string (⟨#[]⟩ : ByteArray), .int .i64 0, .int .i64 0, .int .i64 0, .slice none 0 0]) (t := 32) ?hr ?_; (case hd => rfl); (case hg => rfl); (case hr => first | (go_simp; done) | (go_simp; rfl)); intro gy hgb W7 hbx hb7; have hz0 := (blk_cell hbx 0).trans rfl; have hz1 := (blk_cell hbx 1).trans rfl; have hz2 := (blk_cell hbx 2).trans rfl; have hz3 := (blk_cell hbx 3).trans rfl; have hz4 := (blk_cell hbx 4).trans rfl; have hz5 := (blk_cell hbx 5).trans rfl; have hy0 := blk_frozen hbx 0; have hy1 := blk_frozen hbx 1; have hy2 := blk_frozen hbx 2; have hy3 := blk_frozen hbx 3; have hy4 := blk_frozen hbx 4; have hy5 := blk_frozen hbx 5; have HBX := Aside0.mk hbx; have HB7 := Aside0.mk hb7; have HGB := Aside0.mk hgb; clear hbx hb7 hgb)
              | ((with_reducible refine gate_store (t := 32) (p := 12) rfl ?_); refine store_event (t := 32) (p := 12) (v := .tmp 44) (w1 := ((((((W7.setCell ⟨gy, 0, none⟩ (.int .i64 (rd_T32 l1 (q : Int)).f0)).setCell ⟨gy, 1, none⟩ (.string (rd_T32 l1 (q : Int)).f1)).setCell ⟨gy, 2, none⟩ (.int .i64 (rd_T32 l1 (q : Int)).f2)).setCell ⟨gy, 3, none⟩ (.int .i64 (rd_T32 l1 (q : Int)).f3)).setCell ⟨gy, 4, none⟩ (.int .i64 (rd_T32 l1 (q : Int)).f4)).setCell ⟨gy, 5, none⟩ (.slice Ay (rd_T32 l1 (q : Int)).f5.length cy))) ?hg ?ho ?hn ?hr ?_; (case ho => rfl); (case hg => rfl); (case hn => rfl); (case hr => first | (go_simp; done) | (go_simp; rfl)); intro W8 hw8; have BY : Aside0 (W8.heap[gy]? = some (.cells #[.int .i64 (rd_T32 l1 (q : Int)).f0, .string (rd_T32 l1 (q : Int)).f1, .int .i64 (rd_T32 l1 (q : Int)).f2, .int .i64 (rd_T32 l1 (q : Int)).f3, .int .i64 (rd_T32 l1 (q : Int)).f4, .slice Ay (rd_T32 l1 (q : Int)).f5.length cy] 32 (0, 0))) := ⟨by rw [hw8]; exact boxed6 HBX.out⟩; have HB8 : Aside0 (Below wr.heap.size wr W8) := ⟨by rw [hw8]; (repeat refine below_set ?_ (Nat.le_of_eq HGB.out.symm)); exact HB7.out⟩; clear hw8 hz0 hz1 hz2 hz3 hz4 hz5 hy0 hy1 hy2 hy3 hy4 hy5 HBX HB7; have HT5 := Aside0.mk (HT4.out.step HB8.out); have BX5 := Aside0.mk (blk_below BX.out HB8.out); obtain ⟨gi5, ci5, hcr5, hcq5, hfq5, ⟨cl5, hgc5⟩, htc5⟩ := HT5.out.at i q (by have := HW4.out.1; omega) (by rw [HW4.out.2.at (by have := HW4.out.1; omega)]; exact hlq); (rw [HW4.out.2.at (by have := HW4.out.1; omega)] at hcr5); (rw [show (T4.getD i []).getD q false = false from htv] at hcq5); have hcell5 := HT5.out.cell; (rw [HW4.out.1] at hcell5); have HTC5 := Aside0.mk htc5; have HGC5 := Aside0.mk hgc5; clear htc5 hgc5; have hX0 := (blk_cell BX5.out 0).trans rfl; have hY0 := (blk_cell BY.out 0).trans rfl; have hX1 := (blk_cell BX5.out 1).trans rfl; have hY1 := (blk_cell BY.out 1).trans rfl; have hX2 := (blk_cell BX5.out 2).trans rfl; have hY2 := (blk_cell BY.out 2).trans rfl; have hX3 := (blk_cell BX5.out 3).trans rfl; have hY3 := (blk_cell BY.out 3).trans rfl; have hX4 := (blk_cell BX5.out 4).trans rfl; have hY4 := (blk_cell BY.out 4).trans rfl; have hX5 := (blk_cell BX5.out 5).trans rfl; have hY5 := (blk_cell BY.out 5).trans rfl))
             go_roundg d2
             case measure => omega
             case rel => exact ⟨T4, ch4, q + 1, rfl, rfl, ⟨by have := HQ.out; omega⟩, HW4, S2, HT5, BX5⟩
end Go.Proofs.Ytpmlcmdojmdmhaa.PR
