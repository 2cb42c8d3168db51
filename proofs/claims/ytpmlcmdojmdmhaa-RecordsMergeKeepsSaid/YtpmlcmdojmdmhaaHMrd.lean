/- The reference's Merged, walked by hand: the united types and the numbers, as records.Merge has them. -/
import Derived.Test.YtpmlcmdojmdmhaaHST
import Derived.Test.YtpmlcmdojmdmhaaHMerge
import Derived.Test.YtpmlcmdojmdmhaaHFlat
import Derived.Test.YtpmlcmdojmdmhaaHBis
set_option linter.unusedVariables false
set_option linter.unusedSimpArgs false
set_option maxRecDepth 100000
namespace Go.Proofs.Ytpmlcmdojmdmhaa.PR
open Go.RowKit Go.Proofs.YtpmlcmdojmdmhaaW.PrintWords Go.Proofs.YtpmlcmdojmdmhaaW.PrintLast Go.Proofs.YtpmlcmdojmdmhaaW.PrintMore
/-- A table tells which types are equal. -/
structure Tells (a b : List S32) (T : List (List Bool)) : Prop where
 len : T.length = a.length
 wide : Wide b.length T
 iff : ∀ i q : Int, Inr a i → Inr b q → (Tab T i q ↔ Bis a b i q)
theorem Tells.at {a b : List S32} {T : List (List Bool)} (h : Tells a b T) {i k : Nat} (hi : i < a.length) (hk : k < b.length) : tabAt T i k = true ↔ Bis a b i k := h.iff (i : Int) (k : Int) ⟨by omega, by omega⟩ ⟨by omega, by omega⟩
set_option maxHeartbeats 4000000 in
theorem merged_calls (w : World) (A : Option Addr) (c : Nat) (a : List S32) (hC : Kd.C k32 w A a.length a) (hc : a.length ≤ c) (B : Option Addr) (d : Nat) (b : List S32) (hD : Kd.C k32 w B b.length b) (hd : b.length ≤ d) (ha : Valid a) (hb : Valid b) (T O : List (List Bool)) (hT : Tells a b T) (hO : Tells b b O) (N1 Ad1 : List Int) (hm : mg_k a.length T O b.length 0 (List.replicate b.length 0) [] = (N1, Ad1)) :
 Calls Try.prog 22 #[.slice A a.length c, .slice B b.length d] w fun e w' => ∃ v0 v1, e = .returned (.tuple #[v0, v1]) ∧ (∃ A0 c0, v0 = .slice A0 (a ++ Ad1.map fun q => ren N1 (rd_T32 b q)).length c0 ∧ (a ++ Ad1.map fun q => ren N1 (rd_T32 b q)).length ≤ c0 ∧ Kd.C k32 w' A0 (a ++ Ad1.map fun q => ren N1 (rd_T32 b q)).length (a ++ Ad1.map fun q => ren N1 (rd_T32 b q))) ∧ (∃ A0 c0, v1 = .slice A0 N1.length c0 ∧ N1.length ≤ c0 ∧ Kd.C (Kd.int .i64) w' A0 N1.length N1) ∧ Below w.heap.size w w' := by
 have hu32 := Try.underlying32
 have hu55 := Try.underlying55
 have HRA := Aside0.mk hC
 have HCA := Aside0.mk hc
 have HRB := Aside0.mk hD
 have HCB := Aside0.mk hd
 have HV := Aside0.mk (And.intro ha hb)
 have HT := Aside0.mk hT
 have HO := Aside0.mk hO
 have HG := Aside0.mk hm
 have hla : a.length ≤ 30 := ha.1
 have hlb : b.length ≤ 30 := hb.1
 clear hC hc hD hd ha hb hT hO hm
 go_enter Try.func22, Try.ntmps22
 go_wp2_with (first | ((with_reducible refine gate_dst (N := 20) rfl ?_); refine Kd.R_make (Kd.int .i64) (w0 := w) w.heap.size 3 rfl (N := 20) rfl 34 _ _ rfl (b.length : Int) rfl rfl Try.underlying34 (.int .i64 0) 8 info3 rfl (Nat.lt_succ_self 0) (by omega) 0 (ok := fun _ => True) (okp := fun _ => True) rfl (fun _ hk => hk) trivial (by omega) (by omega) (Below.refl _ _) (Nat.le_refl _) ?_; intro v20 W9 ho9 hb9 hg9 hat9; obtain ⟨gn, cn, rfl, _⟩ := own_formG ho9 hat9; (rw [List.length_replicate, Int.toNat_natCast] at ho9); have HM := Aside0.mk (show Nm w W9 gn cn (.slice none 0 0) (List.replicate b.length 0) [] from ⟨by rw [List.length_replicate]; exact Kd.R_mono (Kd.R_tight rfl ho9) (ok' := fun k => k = gn) (fun k hk => by simpa [Value.ownBlock] using hk), Kd.R_nil _ _ _ _ _, hb9⟩); clear ho9 hb9 hg9 hat9))
 have HLAB := Aside0.mk (And.intro hla hlb)
 go_loopg [7, 8, 9] b.length (fun kq v7 v8 v9 w' => ∃ (N Ad : List Int) (kk : Nat), v7 = .int .i64 ((a.length : Int) + (Ad.length : Int)) ∧ v9 = .int .i64 (kk : Int) ∧ Aside0 (kk + kq = b.length) ∧ Aside0 (N.length = b.length ∧ Ad.length ≤ kk ∧ ∀ x ∈ Ad, InN b.length x) ∧ Aside0 (mg_k a.length T O kq kk N Ad = (N1, Ad1)) ∧ Aside0 (Nm w w' gn cn v8 N Ad))
 case atStart => exact ⟨List.replicate b.length 0, [], 0, by simp, rfl, ⟨by omega⟩, ⟨by simp, by simp, by simp⟩, HG, HM⟩
 case round =>
  clear HG HM
  obtain ⟨N, Ad, kk, rfl, rfl, HK, HL, HG, HM⟩ := hrel
  cases gk with
  | zero =>
   obtain rfl : kk = b.length := by have := HK.out; omega
   obtain ⟨rfl, rfl⟩ : N = N1 ∧ Ad = Ad1 := by have h := HG.out; rw [mg_k] at h; simpa using h
   have d1 : decide ((b.length : Int) < (b.length : Int)) = false := decide_eq_false (by omega)
   obtain ⟨fl0, hf0, hf1⟩ := flat_of HRA.out
   have HF0 := Aside0.mk hf0
   have HF1 := Aside0.mk hf1
   clear hf0 hf1 HK HG
   obtain ⟨A8, c8, e8⟩ := Kd.R_slice HM.out.a
   subst e8
   go_wp2_with (first | ((with_reducible refine gate_builtin (b := .append) (xs := #[.const (.slice none 0 0), .tmp 87]) rfl ?_); at_builtin; go_loud (refine Kd.R_append_rows kf (w0 := w) w.heap.size rfl (.const (.slice none 0 0)) (.tmp 87) 22 32 (.agg #[(.int .i64 0), (.string ⟨#[]⟩), (.int .i64 0), (.int .i64 0), (.int .i64 0), (.slice none 0 0)]) 72 rfl Try.underlying22 info32 rfl (by decide) (by omega) (.slice none 0 0) [] fl0 _ _ _ (fun _ => True) (fun _ => False) rfl rfl (Kd.R_nil _ _ _ _ _) (Kd.C_below HF0.out HM.out.bel) (fun _ _ h => h) (fun _ h => h.elim) (fun _ _ => trivial) HM.out.bel HM.out.bel.size ?aL ?_; (case aL => have h := HLAB.out.1; show (0 + a.length) * 72 ≤ _; omega)); go_loud (intro v88 W5 ho5 hb5 hg5 hat5; have HM5 := Aside0.mk (HM.out.grown0 hb5 hg5); have HO5 := Aside0.mk (show Ot w W5 v88 a from ⟨fl0, ho5, HF1.out.mono fun _ _ h => h.below hb5⟩); clear ho5 hb5 hg5 hat5)))
   go_loopg [12, 13] Ad.length (fun kq v12 v13 w' => ∃ n : Nat, v13 = .int .i64 (n : Int) ∧ Aside0 (n + kq = Ad.length) ∧ Aside0 (Ot w w' v12 (a ++ (Ad.take n).map fun q => ren N (rd_T32 b q))) ∧ Aside0 (Nm w w' gn cn (.slice A8 Ad.length c8) N Ad))
   case atStart => exact ⟨0, rfl, ⟨by omega⟩, by simpa using HO5, HM5⟩
   case round =>
    clear HO5 HM5 HM d1
    obtain ⟨n, rfl, HN, HOT, HM⟩ := hrel
    cases gk with
    | zero =>
     obtain rfl : n = Ad.length := by have := HN.out; omega
     have d1 : decide ((Ad.length : Int) < (Ad.length : Int)) = false := decide_eq_false (by omega)
     go_wp2
     refine bodyPost_ret (results_list (rs := [.tmp 4, .tmp 5]) rfl (by simp) (.tmp (.tmp .nil))) rfl ?_
     exact ⟨_, _, rfl, by have h := HOT.out; rw [List.take_of_length_le (Nat.le_refl _)] at h; exact h.read HM.out.bel, by have h := HM.out.n; have e := HL.out.1; have h2 := Kd.R_reads' h; exact ⟨some ⟨gn, 0, none⟩, cn, (by rw [e]; rfl), h2.2.1, h2.2.2⟩, HM.out.bel⟩
    | succ dd =>
     have hln : n < Ad.length := by have := HN.out; omega
     have hin := HL.out.2.2 _ (List.getElem_mem hln)
     obtain ⟨q, hq⟩ := Int.eq_ofNat_of_zero_le hin.1
     have hql : q < b.length := by have := hin.2; omega
     obtain ⟨ad8, e8, hca⟩ := Kd.at_int (Kd.R_reads' HM.out.a).2.2 (n : Int) (by omega) (by omega)
     subst e8
     rw [Int.toNat_natCast, show rd Ad (n : Int) = (q : Int) from by rw [← hq]; simp [rd, hln]] at hca
     obtain ⟨bd, A5, c5, eB, x0, x1, x2, x3, x4, x5, hlx, hix⟩ := at_T32 HRB.out (q : Int) (by omega) (by omega)
     subst eB
     have iq : Inr b (q : Int) := ⟨by omega, by omega⟩
     have HRE := Aside0.mk (HV.out.2.elr iq)
     have HRF := Aside0.mk (fun p (hp : p < (rd_T32 b (q : Int)).f5.length) => HV.out.2.fdr iq hp)
     have HN8 := Aside0.mk (show (rd_T32 b (q : Int)).f5.length ≤ 8 from by have := (HV.out.2.tv iq.1 iq.2).n8; omega)
     have HTK := Aside0.mk (show (Ad.take (n + 1)).map (fun q => ren N (rd_T32 b q)) = (Ad.take n).map (fun q => ren N (rd_T32 b q)) ++ [ren N (rd_T32 b (q : Int))] from by rw [List.take_succ_eq_append_getElem hln, List.map_append, hq]; rfl)
     obtain ⟨t, ht⟩ : ∃ t, rd_T32 b (q : Int) = t := ⟨_, rfl⟩
     rw [ht] at x0 x1 x2 x3 x4 x5 hix hlx HRE HRF HN8 HTK
     simp only [Int.toNat_natCast] at x0 x1 x2 x3 x4 x5
     replace x0 := (HM.out.bel.cell (World.block_lt_of_cell? w _ x0)).trans x0
     replace x1 := (HM.out.bel.cell (World.block_lt_of_cell? w _ x1)).trans x1
     replace x2 := (HM.out.bel.cell (World.block_lt_of_cell? w _ x2)).trans x2
     replace x3 := (HM.out.bel.cell (World.block_lt_of_cell? w _ x3)).trans x3
     replace x4 := (HM.out.bel.cell (World.block_lt_of_cell? w _ x4)).trans x4
     replace x5 := (HM.out.bel.cell (World.block_lt_of_cell? w _ x5)).trans x5
     have HIX := Aside0.mk hix
     have HTL := Aside0.mk (show ((Ad.take n).map fun q => ren N (rd_T32 b q)).length ≤ 30 from by rw [List.length_map, List.length_take]; have := HLAB.out.2; have := HL.out.2.1; omega)
     have d1 : decide ((n : Int) < (Ad.length : Int)) = true := decide_eq_true (by omega)
     have d2 : decide ((0 : Int) ≤ (n : Int)) = true := decide_eq_true (by omega)
     have d3 : ((0 : Int) ≤ (n : Int)) = True := eq_true (by omega)
     have d4 : ((n : Int) < (Ad.length : Int)) = True := eq_true (by omega)
     have d5 : decide ((0 : Int) ≤ (q : Int)) = true := decide_eq_true (by omega)
     have d6 : decide ((q : Int) < (b.length : Int)) = true := decide_eq_true (by omega)
     have d7 : ((0 : Int) ≤ (q : Int)) = True := eq_true (by omega)
     have d8 : ((q : Int) < (b.length : Int)) = True := eq_true (by omega)
     have HNN := Aside0.mk hln
     clear hln hin hq hql iq ht hix hlx
     go_upto_region 27 with (first
      | ((with_reducible refine gate_dst (N := 14) rfl ?_); refine box_event ?hg (N := 14) ?hd (cs := #[.int .i64 0, .string (⟨#[]⟩ : ByteArray), .int .i64 0, .int .i64 0, .int .i64 0, .slice none 0 0]) (t := 32) ?hr ?_; (case hd => rfl); (case hg => rfl); (case hr => first | (go_simp; done) | (go_simp; rfl)); intro gx hgb W7 hbx hb7; have hz0 := (blk_cell hbx 0).trans rfl; have hy0 := blk_frozen hbx 0; have hz1 := (blk_cell hbx 1).trans rfl; have hy1 := blk_frozen hbx 1; have hz2 := (blk_cell hbx 2).trans rfl; have hy2 := blk_frozen hbx 2; have hz3 := (blk_cell hbx 3).trans rfl; have hy3 := blk_frozen hbx 3; have hz4 := (blk_cell hbx 4).trans rfl; have hy4 := blk_frozen hbx 4; have hz5 := (blk_cell hbx 5).trans rfl; have hy5 := blk_frozen hbx 5; have HX := Aside0.mk (And.intro hgb (And.intro hbx hb7)); clear hbx hb7 hgb)
      | ((with_reducible refine gate_store (t := 32) (p := 14) rfl ?_); refine store_event (t := 32) (p := 14) (v := .tmp 101) (w1 := ((((((W7.setCell ⟨gx, 0, none⟩ (.int .i64 t.f0)).setCell ⟨gx, 1, none⟩ (.string t.f1)).setCell ⟨gx, 2, none⟩ (.int .i64 t.f2)).setCell ⟨gx, 3, none⟩ (.int .i64 t.f3)).setCell ⟨gx, 4, none⟩ (.int .i64 t.f4)).setCell ⟨gx, 5, none⟩ (.slice A5 t.f5.length c5))) ?hg ?ho ?hn ?hr ?_; (case ho => rfl); (case hg => rfl); (case hn => rfl); (case hr => first | (go_simp; done) | (go_simp; rfl)); intro W8 hw8; have hs : Below wr.heap.size wr W8 := (by rw [hw8]; (repeat refine below_set ?_ (Nat.le_of_eq HX.out.1.symm)); exact HX.out.2.2); have hbx8 : W8.heap[gx]? = some (.cells #[.int .i64 t.f0, .string t.f1, .int .i64 t.f2, .int .i64 t.f3, .int .i64 t.f4, .slice A5 t.f5.length c5] 32 (0, 0)) := (by rw [hw8]; exact boxed6 HX.out.2.1); have HGgx := Aside0.mk (Nat.le_of_eq HX.out.1.symm); clear HX hw8 hz0 hy0 hz1 hy1 hz2 hy2 hz3 hy3 hz4 hy4 hz5 hy5; have BX := Aside0.mk hbx8; have HW := Aside0.mk hs; have hX0 := (blk_cell hbx8 0).trans rfl; clear hs hbx8))
     (try simp only [Act.put, List.setIfInBounds_toArray, List.set_cons_zero, List.set_cons_succ])
     go_cut [109] (fun v109 wc => ∃ bk : Bool, v109 = .bool bk ∧ (bk = true ↔ (t.f0 = 2 ∨ t.f0 = 3)) ∧ Aside0 (wc.heap[gx]? = some (.cells #[.int .i64 t.f0, .string t.f1, .int .i64 t.f2, .int .i64 t.f3, .int .i64 t.f4, .slice A5 t.f5.length c5] 32 (0, 0))) ∧ Aside0 (Below wr.heap.size wr wc))
     case first =>
      by_cases k2 : t.f0 = 2
      case pos =>
       have k2b : (t.f0 == 2) = true := beq_iff_eq.mpr k2
       have HKK := Aside0.mk (show true = true ↔ (t.f0 = 2 ∨ t.f0 = 3) from ⟨fun _ => .inl k2, fun _ => rfl⟩)
       clear k2
       go_wp2
       go_meet
       case rel => exact ⟨true, rfl, by simpa using HKK.out, BX, HW⟩
      have k2b : (t.f0 == 2) = false := beq_eq_false_iff_ne.mpr k2
      by_cases k3 : t.f0 = 3
      case pos =>
       have k3b : (t.f0 == 3) = true := beq_iff_eq.mpr k3
       have HKK := Aside0.mk (show true = true ↔ (t.f0 = 2 ∨ t.f0 = 3) from ⟨fun _ => .inr k3, fun _ => rfl⟩)
       clear k2 k3
       go_wp2
       go_meet
       case rel => exact ⟨true, rfl, by simpa using HKK.out, BX, HW⟩
      have k3b : (t.f0 == 3) = false := beq_eq_false_iff_ne.mpr k3
      have HKK := Aside0.mk (show ¬ (t.f0 = 2 ∨ t.f0 = 3) from fun h => h.elim k2 k3)
      clear k2 k3
      go_wp2
      go_meet
      case rel => exact ⟨false, rfl, ⟨fun h => (by cases h), fun h => absurd h HKK.out⟩, BX, HW⟩
     case rest =>
      clear BX HW hX0 x0 x1 x2 x3 x4 x5
      obtain ⟨bk, rfl, hbk, BX, HW⟩ := hcut
      have HBK := Aside0.mk hbk
      clear hbk
      go_upto_if 109 with (fail)
      go_cut [] (fun wc => Aside0 (wc.heap[gx]? = some (.cells #[.int .i64 t.f0, .string t.f1, .int .i64 t.f2, .int .i64 (renE N t), .int .i64 t.f4, .slice A5 t.f5.length c5] 32 (0, 0))) ∧ Aside0 (Below wr.heap.size wr wc))
      case first =>
       cases bk with
       | true =>
        have HMX := Aside0.mk (HM.out.step HW.out)
        have hX3 := (blk_cell BX.out 3).trans rfl
        have hF3 := blk_frozen BX.out 3
        have p0 := HRE.out.1
        have p1 := HRE.out.2
        obtain ⟨p, hp⟩ := Int.eq_ofNat_of_zero_le p0
        have hpl : p < N.length := by have := HL.out.1; omega
        have hnp := HMX.out.nget p hpl
        have hNl := HL.out.1
        rw [hp] at hX3
        have e1 : decide ((0 : Int) ≤ (p : Int)) = true := decide_eq_true (by omega)
        have e2 : decide ((p : Int) < (N.length : Int)) = true := decide_eq_true (by omega)
        have e3 : ((0 : Int) ≤ (p : Int)) = True := eq_true (by omega)
        have e4 : ((p : Int) < (N.length : Int)) = True := eq_true (by omega)
        have e5 : decide ((p : Int) < (b.length : Int)) = true := decide_eq_true (by omega)
        have e6 : ((p : Int) < (b.length : Int)) = True := eq_true (by omega)
        have HRN := Aside0.mk (show renE N t = rd N (p : Int) from by unfold renE; rw [if_pos (HBK.out.1 rfl), hp])
        have HST : Aside0 (∀ x, (wc.setCell ⟨gx, 3, none⟩ (.int .i64 x)).heap[gx]? = some (.cells #[.int .i64 t.f0, .string t.f1, .int .i64 t.f2, .int .i64 x, .int .i64 t.f4, .slice A5 t.f5.length c5] 32 (0, 0))) := ⟨fun x => blk_put BX.out 3 _ rfl⟩
        clear hp p0 p1 hpl hNl
        go_wp2
        go_meet
        case rel => exact ⟨⟨by rw [HRN.out]; exact HST.out _⟩, ⟨below_set HW.out HGgx.out⟩⟩
       | false =>
        have HRN := Aside0.mk (show renE N t = t.f3 from by unfold renE; rw [if_neg (fun h => by have := HBK.out.2 h; cases this)])
        go_wp2
        go_meet
        case rel => exact ⟨⟨by rw [HRN.out]; exact BX.out⟩, HW⟩
      case rest =>
       clear BX HW HBK
       obtain ⟨BX, HW⟩ := hcut
       go_wp2
       go_loopg [15, 16] t.f5.length (fun kq v15 v16 w' => ∃ j : Nat, v16 = .int .i64 (j : Int) ∧ Aside0 (j + kq = t.f5.length) ∧ Aside0 (Kd.R k55 55 w' wr.heap.size (fun _ => True) v15 ((t.f5.take j).map (renF N))) ∧ Aside0 (w'.heap[gx]? = some (.cells #[.int .i64 t.f0, .string t.f1, .int .i64 t.f2, .int .i64 (renE N t), .int .i64 t.f4, .slice A5 t.f5.length c5] 32 (0, 0))) ∧ Aside0 (Below wr.heap.size wr w'))
       case atStart => exact ⟨0, rfl, ⟨by omega⟩, ⟨Kd.R_nil _ _ _ _ _⟩, BX, HW⟩
       case round =>
        clear BX HW
        obtain ⟨j, rfl, HJ, HF, BX, HW⟩ := hrel
        have hX5 := (blk_cell BX.out 5).trans rfl
        cases gk with
        | zero =>
         obtain rfl : j = t.f5.length := by have := HJ.out; omega
         have g1 : decide ((t.f5.length : Int) < (t.f5.length : Int)) = false := decide_eq_false (by omega)
         obtain ⟨A9, c9, e9⟩ := Kd.R_slice HF.out
         rw [List.length_map, List.length_take, Nat.min_self] at e9
         subst e9
         obtain ⟨fl, ho, h2⟩ := HOT.out
         have HFL := Aside0.mk (show fl.length ≤ 60 from by rw [← h2.1, List.length_append]; have := HTL.out; have := HLAB.out.1; omega)
         have hm5 : ((t.f5.take t.f5.length).map (renF N)) = t.f5.map (renF N) := by rw [List.take_of_length_le (Nat.le_refl _)]
         rw [hm5] at HF
         have HW6 := Aside0.mk (fun v => below_set (v := v) (j := 5) HW.out HGgx.out)
         have HO6 := Aside0.mk (fun v => Kd.R_mono (Kd.R_far (p := ⟨gx, 5, none⟩) (Kd.R_below (Kd.R_mono (Kd.R_bound ho) (ok' := fun k => k ≠ gx) (fun k hk => by have h3 := hk.2.2.1; have h4 := HGgx.out; omega)) HW.out) (fun _ hk => hk) v) (ok' := fun _ => True) (fun _ _ => trivial))
         have HO2 := Aside0.mk (fun v => h2.mono fun _ _ h => h.below (HW6.out v))
         have HF6 := Aside0.mk (fun v => Kd.R_mono (Kd.R_far (p := ⟨gx, 5, none⟩) (Kd.R_types HF.out BX.out (by decide)) (fun _ hk => hk.2) v) (ok' := fun _ => True) (fun _ _ => trivial))
         have HM6 := Aside0.mk (fun v => HM.out.step (HW6.out v))
         clear ho h2 hm5
         have hF5 := blk_frozen BX.out 5
         have hX0 := (blk_cell BX.out 0).trans rfl; have hX1 := (blk_cell BX.out 1).trans rfl; have hX2 := (blk_cell BX.out 2).trans rfl; have hX3 := (blk_cell BX.out 3).trans rfl; have hX4 := (blk_cell BX.out 4).trans rfl
         go_wp2_with (first | (at_builtin; go_loud (refine Kd.R_append kf (w0 := w) w.heap.size rfl (.tmp 140) (.tmp 142) 22 32 (.agg #[(.int .i64 0), (.string ⟨#[]⟩), (.int .i64 0), (.int .i64 0), (.int .i64 0), (.slice none 0 0)]) 72 rfl Try.underlying22 info32 rfl (by decide) (by omega) u12 fl (⟨t.f0, t.f1, t.f2, renE N t, t.f4, .slice A9 t.f5.length c9, rfl⟩ : S32f) [.int .i64 t.f0, .string t.f1, .int .i64 t.f2, .int .i64 (renE N t), .int .i64 t.f4, .slice A9 t.f5.length c9] (fun _ => True) (fun _ => False) rfl (congrArg (fun n => Value.slice (some ⟨n, 0, none⟩) 1 1) (World.size_setCell _ _ _).symm) (kf_M (kf_mk _ _)) (fun _ hk => hk.elim) (fun _ _ => trivial) (HO6.out (.slice A9 t.f5.length c9)) (HM6.out (.slice A9 t.f5.length c9)).bel (HM6.out (.slice A9 t.f5.length c9)).bel.size (by have := HFL.out; omega) ?_; intro v143 W5 ho5 hb5 hg5 hat5; have HM5 := Aside0.mk ((HM6.out (.slice A9 t.f5.length c9)).other (Kd.R_typed (HO6.out (.slice A9 t.f5.length c9))) (by decide) hb5 hg5); have HO5 := Aside0.mk (show Ot w W5 v143 ((a ++ (Ad.take n).map (fun q => ren N (rd_T32 b q))) ++ [ren N t]) from ⟨_, ho5, ((HO2.out (.slice A9 t.f5.length c9)).mono fun _ _ h => h.over (Kd.R_typed (HO6.out (.slice A9 t.f5.length c9))) hg5).snoc ⟨rfl, rfl, rfl, rfl, rfl, .inl (Kd.R_lower (Kd.R_over' (HF6.out (.slice A9 t.f5.length c9)) (Kd.R_typed (HO6.out (.slice A9 t.f5.length c9))) (by decide) hg5) HM.out.bel.size)⟩⟩); clear ho5 hb5 hg5 hat5)))
         go_roundg dd
         case measure => omega
         case rel => exact ⟨n + 1, by have := HN.out; have := HL.out.2.1; have := HLAB.out.2; rw [show wrap64 ((n : Int) + 1) = ((n + 1 : Nat) : Int) from by unfold wrap64; omega], ⟨by have := HN.out; omega⟩, ⟨by rw [HTK.out, ← List.append_assoc]; exact HO5.out⟩, HM5⟩
        | succ jj =>
         have hlj : j < t.f5.length := by have := HJ.out; omega
         obtain ⟨fd5, e5, y0, y1, y2⟩ := at_T55 HIX.out (j : Int) (by omega) (by omega)
         subst e5
         rw [fd_eq] at y0 y1 y2
         simp only [Int.toNat_natCast] at y0 y1 y2
         have hbw := below_step HM.out.bel HW.out
         replace y0 := (hbw.cell (World.block_lt_of_cell? w _ y0)).trans y0
         replace y1 := (hbw.cell (World.block_lt_of_cell? w _ y1)).trans y1
         replace y2 := (hbw.cell (World.block_lt_of_cell? w _ y2)).trans y2
         have hrf := HRF.out j hlj
         have HTJ := Aside0.mk (show (t.f5.take (j + 1)).map (renF N) = (t.f5.take j).map (renF N) ++ [renF N (fd t j)] from by
          rw [List.take_succ_eq_append_getElem hlj, List.map_append]
          unfold fd
          rw [List.getD_eq_getElem?_getD, List.getElem?_eq_getElem hlj]
          rfl)
         have HLJ := Aside0.mk (show ((t.f5.take j).map (renF N)).length ≤ 8 from by rw [List.length_map, List.length_take]; have := HN8.out; omega)
         obtain ⟨f, hf⟩ : ∃ f, fd t j = f := ⟨_, rfl⟩
         rw [hf] at y0 y1 y2 hrf HTJ
         obtain ⟨p, hp⟩ := Int.eq_ofNat_of_zero_le hrf.1
         have hpl : p < N.length := by have := HL.out.1; have := hrf.2; omega
         have HPL := Aside0.mk hpl
         have HRN := Aside0.mk (show renF N f = ⟨f.f0, rd N (p : Int), f.f2⟩ from by unfold renF; rw [hp])
         have hNl := HL.out.1
         have g1 : decide ((j : Int) < (t.f5.length : Int)) = true := decide_eq_true (by omega)
         have g2 : decide ((0 : Int) ≤ (j : Int)) = true := decide_eq_true (by omega)
         have g3 : ((0 : Int) ≤ (j : Int)) = True := eq_true (by omega)
         have g4 : ((j : Int) < (t.f5.length : Int)) = True := eq_true (by omega)
         have e1 : decide ((0 : Int) ≤ (p : Int)) = true := decide_eq_true (by omega)
         have e2 : decide ((p : Int) < (N.length : Int)) = true := decide_eq_true (by omega)
         have e3 : ((0 : Int) ≤ (p : Int)) = True := eq_true (by omega)
         have e4 : ((p : Int) < (N.length : Int)) = True := eq_true (by omega)
         have e5 : decide ((p : Int) < (b.length : Int)) = true := decide_eq_true (by omega)
         have e6 : ((p : Int) < (b.length : Int)) = True := eq_true (by omega)
         have HP := Aside0.mk hp
         rw [hp] at y1
         clear hlj hbw hrf hf hp hpl hNl
         go_wp2_with (first
          | ((with_reducible refine gate_dst (N := 17) rfl ?_); refine box_event ?hg (N := 17) ?hd (cs := #[.string (⟨#[]⟩ : ByteArray), .int .i64 0, .int .i64 0]) (t := 55) ?hr ?_; (case hd => rfl); (case hg => rfl); (case hr => first | (go_simp; done) | (go_simp; rfl)); intro gf hgb W7 hbx hb7; have hz0 := (blk_cell hbx 0).trans rfl; have hy0 := blk_frozen hbx 0; have hz1 := (blk_cell hbx 1).trans rfl; have hy1 := blk_frozen hbx 1; have hz2 := (blk_cell hbx 2).trans rfl; have hy2 := blk_frozen hbx 2; have HX := Aside0.mk (And.intro hgb (And.intro hbx hb7)); clear hbx hb7 hgb)
          | ((with_reducible refine gate_store (t := 55) (p := 17) rfl ?_); refine store_event (t := 55) (p := 17) (v := .tmp 127) (w1 := (((W7.setCell ⟨gf, 0, none⟩ (.string f.f0)).setCell ⟨gf, 1, none⟩ (.int .i64 ((p : Nat) : Int))).setCell ⟨gf, 2, none⟩ (.int .i64 f.f2))) ?hg ?ho ?hn ?hr ?_; (case ho => rfl); (case hg => rfl); (case hn => rfl); (case hr => first | (go_simp; done) | (go_simp; rfl)); intro W8 hw8; have hs : Below wr.heap.size wr W8 := (by rw [hw8]; (repeat refine below_set ?_ (Nat.le_of_eq HX.out.1.symm)); exact HX.out.2.2); have hbx8 : W8.heap[gf]? = some (.cells #[.string f.f0, .int .i64 ((p : Nat) : Int), .int .i64 f.f2] 55 (0, 0)) := (by rw [hw8]; exact blk_put (blk_put (blk_put HX.out.2.1 0 _ rfl) 1 _ rfl) 2 _ rfl); have HGgf := Aside0.mk (Nat.le_of_eq HX.out.1.symm); clear HX hw8 hz0 hy0 hz1 hy1 hz2 hy2; have NGF : gx ≠ gf := (by have h3 := blk_lt BX.out; have h4 := HGgf.out; omega); have HWF := Aside0.mk (fun v => below_set (v := v) (j := 1) (below_step HW.out hs) (show _ ≤ gf from by have h3 := HW.out.size; have h4 := HGgf.out; omega)); have HFF := Aside0.mk (fun v => Kd.R_mono (Kd.R_far (p := ⟨gf, 1, none⟩) (Kd.R_below (Kd.R_mono (Kd.R_bound HF.out) (ok' := fun k => k ≠ gf) (fun k hk => by have h3 := hk.2.2.1; have h4 := HGgf.out; omega)) hs) (fun _ hk => hk) v) (ok' := fun _ => True) (fun _ _ => trivial)); have BXF := Aside0.mk (fun v => blk_far (p := ⟨gf, 1, none⟩) (blk_below BX.out hs) NGF v); have hf0 := (blk_cell hbx8 0).trans rfl; have hfx := (blk_cell hbx8 1).trans rfl; have hf2 := (blk_cell hbx8 2).trans rfl; have hff := blk_frozen hbx8 1; have hnp := (HM.out.step (below_step HW.out hs)).nget p HPL.out; clear hs hbx8)
          | (at_builtin; go_loud (refine Kd.R_append k55 (w0 := _) _ rfl (.tmp 134) (.tmp 136) 30 55 (.agg #[(.string ⟨#[]⟩), (.int .i64 0), (.int .i64 0)]) 32 rfl Try.underlying30 info55 rfl (by decide) (by omega) u15 ((t.f5.take j).map (renF N)) (⟨f.f0, rd N (p : Int), f.f2⟩ : S55) [.string f.f0, .int .i64 (rd N (p : Int)), .int .i64 f.f2] (fun _ => True) (fun _ => False) rfl (congrArg (fun n => Value.slice (some ⟨n, 0, none⟩) 1 1) (World.size_setCell _ _ _).symm) (k55_mkM _ _ _ (⟨f.f0, rd N (p : Int), f.f2⟩ : S55)) (fun _ hk => hk.elim) (fun _ _ => trivial) (HFF.out (.int .i64 (rd N (p : Int)))) (HWF.out (.int .i64 (rd N (p : Int)))) (HWF.out (.int .i64 (rd N (p : Int)))).size (by have := HLJ.out; omega) ?_; intro v137 W5 ho5 hb5 hg5 hat5; have HF5 := Aside0.mk ho5; have BX5 := Aside0.mk (blk_grown (BXF.out (.int .i64 (rd N (p : Int)))) hg5 (Kd.R_ne (HFF.out (.int .i64 (rd N (p : Int)))) (BXF.out (.int .i64 (rd N (p : Int)))) (by decide))); have HW5 := Aside0.mk hb5; clear ho5 hb5 hg5 hat5)))
         go_roundg jj
         case measure => omega
         case rel => exact ⟨j + 1, by have := HJ.out; have := HN8.out; rw [show wrap64 ((j : Int) + 1) = ((j + 1 : Nat) : Int) from by unfold wrap64; omega], ⟨by have := HJ.out; omega⟩, ⟨by rw [HTJ.out, HRN.out]; exact HF5.out⟩, BX5, HW5⟩
  | succ dd =>
   have hkl : kk < b.length := by have := HK.out; omega
   obtain ⟨c, hcv⟩ : ∃ c, mg_i T kk a.length 0 = c := ⟨_, rfl⟩
   obtain ⟨cc, hccv⟩ : ∃ cc, mg_j O N kk kk 0 c = cc := ⟨_, rfl⟩
   have HC := Aside0.mk hcv
   have HJ := Aside0.mk hccv
   have HE := Aside0.mk (show mg_c a.length T O kk N = cc from by unfold mg_c; rw [hcv]; exact hccv)
   have HKI := Aside0.mk (show Inr b ((kk : Nat) : Int) from ⟨by omega, by omega⟩)
   have HKL := Aside0.mk hkl
   have HNL := Aside0.mk HL.out.1
   have d1 : decide ((kk : Int) < (b.length : Int)) = true := decide_eq_true (by omega)
   have d1n : decide (kk < b.length) = true := decide_eq_true hkl
   have d2 : decide ((0 : Int) ≤ (kk : Int)) = true := decide_eq_true (by omega)
   have d3 : ((0 : Int) ≤ (kk : Int)) = True := eq_true (by omega)
   have d4 : ((kk : Int) < (b.length : Int)) = True := eq_true (by omega)
   have hq := HM.out.nget kk (by have := HL.out.1; omega)
   have hf := HM.out.nfrozen kk
   clear hcv hccv hkl
   go_upto_block 2 with (fail)
   go_cut [] (fun wc => Aside0 (Nm w wc gn cn u8 (N.set kk c) Ad))
   case first =>
    go_wp2
    go_loopg [10] a.length (fun kq v10 w' => ∃ (i x : Int), v10 = .int .i64 i ∧ Aside0 (i + 1 = (kq : Int) ∧ kq ≤ a.length) ∧ Aside0 (mg_i T kk (a.length - kq) kq = x) ∧ Aside0 (Nm w w' gn cn u8 (N.set kk x) Ad))
    case atStart => exact ⟨(a.length : Int) - 1, -1, (by first | rfl | (rw [show wrap64 ((a.length : Int) - 1) = (a.length : Int) - 1 from w64 (by omega) (by omega)])), ⟨by omega, Nat.le_refl _⟩, ⟨by rw [Nat.sub_self]; rfl⟩, ⟨HM.out.nset kk (-1)⟩⟩
    case round =>
     clear hq hf HM
     obtain ⟨i, x, rfl, HI, HX, HM2⟩ := hrel
     cases gk with
     | zero =>
      obtain rfl : i = -1 := by have := HI.out.1; omega
      have d5 : decide ((0 : Int) ≤ -1) = false := by decide
      go_wp2
      go_meet
      case rel => exact ⟨by have e : x = c := HX.out.symm.trans HC.out; rw [← e]; exact HM2.out⟩
     | succ ii =>
      obtain rfl : i = ((ii : Nat) : Int) := by have := HI.out.1; omega
      have hil : ii < a.length := by have := HI.out.2; omega
      have HIL := Aside0.mk hil
      have HII := Aside0.mk (show Inr a ((ii : Nat) : Int) from ⟨by omega, by omega⟩)
      have d5 : decide ((0 : Int) ≤ (ii : Int)) = true := decide_eq_true (by omega)
      have d6 : ((0 : Int) ≤ (ii : Int)) = True := eq_true (by omega)
      have hwr : wrap64 ((ii : Int) - 1) = (ii : Int) - 1 := w64 (by omega) (by omega)
      have HWR := Aside0.mk hwr
      have hsub : a.length - ii = (a.length - (ii + 1)) + 1 := by omega
      have HSB := Aside0.mk hsub
      clear hwr hsub
      by_cases htv : tabAt T ii kk = true
      · have HBT := Aside0.mk ((HT.out.at hil HKL.out).1 htv)
        have HTV := Aside0.mk htv
        clear htv hil
        go_wp2_with (first | (go_at_call 19; refine (sameTypes_calls _ _ _ a (Kd.C_below HRA.out HM2.out.bel) HCA.out _ _ b (Kd.C_below HRB.out HM2.out.bel) HCB.out HV.out.1 HV.out.2 ((ii : Nat) : Int) ((kk : Nat) : Int) HII.out HKI.out true (⟨fun _ => HBT.out, fun _ => rfl⟩)).mono ?_; rintro e W3 ⟨rfl, hb3⟩; have HM3 := Aside0.mk (HM2.out.step hb3); clear hb3; have hq := HM3.out.nget kk (by rw [List.length_set]; have h := HL.out.1; have h2 := HKL.out; omega); have hf := HM3.out.nfrozen kk))
        go_roundg ii
        case measure => omega
        case rel => exact ⟨(ii : Int) - 1, (ii : Int), by rw [HWR.out], ⟨by omega, by have := HIL.out; omega⟩, ⟨by rw [HSB.out, mg_i, if_pos HTV.out]⟩, ⟨by have h1 := HM3.out.nset kk (ii : Int); rw [List.set_set] at h1; exact h1⟩⟩
      · have HBT := Aside0.mk (fun h => htv ((HT.out.at hil HKL.out).2 h))
        have HTV := Aside0.mk htv
        clear htv hil
        go_wp2_with (first | (go_at_call 19; refine (sameTypes_calls _ _ _ a (Kd.C_below HRA.out HM2.out.bel) HCA.out _ _ b (Kd.C_below HRB.out HM2.out.bel) HCB.out HV.out.1 HV.out.2 ((ii : Nat) : Int) ((kk : Nat) : Int) HII.out HKI.out false (⟨fun h => (by cases h), fun h => absurd h HBT.out⟩)).mono ?_; rintro e W3 ⟨rfl, hb3⟩; have HM3 := Aside0.mk (HM2.out.step hb3); clear hb3; have hq := HM3.out.nget kk (by rw [List.length_set]; have h := HL.out.1; have h2 := HKL.out; omega); have hf := HM3.out.nfrozen kk))
        go_roundg ii
        case measure => omega
        case rel => exact ⟨(ii : Int) - 1, x, by rw [HWR.out], ⟨by omega, by have := HIL.out; omega⟩, ⟨by rw [HSB.out, mg_i, if_neg HTV.out]; exact HX.out⟩, HM3⟩
   case rest =>
    clear hq hf HM HC
    have HM := hcut
    clear hcut
    go_upto_block 4 with (fail)
    go_cut [] (fun wc => Aside0 (Nm w wc gn cn u8 (N.set kk cc) Ad))
    case first =>
     go_wp2
     go_loopg [11] kk (fun kq v11 w' => ∃ (j : Nat) (x : Int), v11 = .int .i64 (j : Int) ∧ Aside0 (j + kq = kk) ∧ Aside0 (mg_j O N kk kq j x = cc) ∧ Aside0 (Nm w w' gn cn u8 (N.set kk x) Ad))
     case atStart => exact ⟨0, c, rfl, ⟨by omega⟩, HJ, HM⟩
     case round =>
      clear HJ HM
      obtain ⟨j, x, rfl, HI, HCj, HM2⟩ := hrel
      cases gk with
      | zero =>
       obtain rfl : j = kk := by have := HI.out; omega
       have d5 : decide ((j : Int) < (j : Int)) = false := decide_eq_false (by omega)
       go_wp2
       go_meet
       case rel => exact ⟨by have := HCj.out; rw [mg_j] at this; rw [← this]; exact HM2.out⟩
      | succ jj =>
       have hlj : j < kk := by have := HI.out; omega
       have hkl := HKL.out
       have hNl := HNL.out
       have hq := HM2.out.nget kk (by rw [List.length_set]; omega)
       rw [show rd (N.set kk x) (kk : Int) = x from by simp [rd, List.getElem?_set, show kk < N.length by omega]] at hq
       have hf := HM2.out.nfrozen kk
       have HRJ := Aside0.mk (show rd (N.set kk x) (j : Int) = rd N (j : Int) from by simp [rd, List.getElem?_set, show kk ≠ j by omega])
       have HJK := Aside0.mk hlj
       have HII := Aside0.mk (show Inr b ((j : Nat) : Int) from ⟨by omega, by omega⟩)
       have hat := HO.out.at (i := j) (k := kk) (by omega) hkl
       have HWR := Aside0.mk (show wrap64 ((j : Int) + 1) = ((j + 1 : Nat) : Int) from by rw [w64 (by omega) (by omega)]; rfl)
       have d5 : decide ((j : Int) < (kk : Int)) = true := decide_eq_true (by omega)
       have d5n : decide (j < kk) = true := decide_eq_true hlj
       have d6 : decide ((0 : Int) ≤ (j : Int)) = true := decide_eq_true (by omega)
       have d7 : ((0 : Int) ≤ (j : Int)) = True := eq_true (by omega)
       have d8 : ((j : Int) < (b.length : Int)) = True := eq_true (by omega)
       clear hlj hkl hNl
       by_cases hx0 : x < 0
       · have d9 : decide (x < 0) = true := decide_eq_true hx0
         have HX0 := Aside0.mk hx0
         clear hx0
         by_cases htv : tabAt O j kk = true
         · have HBT := Aside0.mk (hat.1 htv)
           have HTV := Aside0.mk htv
           clear htv hat
           go_wp2_with (first | (go_at_call 19; refine (sameTypes_calls _ _ _ b (Kd.C_below HRB.out HM2.out.bel) HCB.out _ _ b (Kd.C_below HRB.out HM2.out.bel) HCB.out HV.out.2 HV.out.2 ((j : Nat) : Int) ((kk : Nat) : Int) HII.out HKI.out true (⟨fun _ => HBT.out, fun _ => rfl⟩)).mono ?_; rintro e W3 ⟨rfl, hb3⟩; have HM3 := Aside0.mk (HM2.out.step hb3); clear hb3; have hq := HM3.out.nget kk (by rw [List.length_set]; have h := HL.out.1; have h2 := HKL.out; omega); have hf := HM3.out.nfrozen kk; have hqj := HM3.out.nget j (by rw [List.length_set]; have h := HL.out.1; have h2 := HKL.out; have h3 := HJK.out; omega); rw [HRJ.out] at hqj))
           go_roundg jj
           case measure => omega
           case rel => exact ⟨j + 1, rd N (j : Int), by rw [HWR.out], ⟨by have := HI.out; omega⟩, ⟨by have := HCj.out; rwa [mg_j, if_pos HX0.out, if_pos HTV.out] at this⟩, ⟨by have h1 := HM3.out.nset kk (rd N (j : Int)); rw [List.set_set] at h1; exact h1⟩⟩
         · have HBT := Aside0.mk (fun h => htv (hat.2 h))
           have HTV := Aside0.mk htv
           clear htv hat
           go_wp2_with (first | (go_at_call 19; refine (sameTypes_calls _ _ _ b (Kd.C_below HRB.out HM2.out.bel) HCB.out _ _ b (Kd.C_below HRB.out HM2.out.bel) HCB.out HV.out.2 HV.out.2 ((j : Nat) : Int) ((kk : Nat) : Int) HII.out HKI.out false (⟨fun h => (by cases h), fun h => absurd h HBT.out⟩)).mono ?_; rintro e W3 ⟨rfl, hb3⟩; have HM3 := Aside0.mk (HM2.out.step hb3); clear hb3; skip))
           go_roundg jj
           case measure => omega
           case rel => exact ⟨j + 1, x, by rw [HWR.out], ⟨by have := HI.out; omega⟩, ⟨by have := HCj.out; rwa [mg_j, if_pos HX0.out, if_neg HTV.out] at this⟩, HM3⟩
       · have d9 : decide (x < 0) = false := decide_eq_false hx0
         have HX0 := Aside0.mk hx0
         clear hx0 hat
         go_wp2
         go_meet
         case rel => exact ⟨by have := HCj.out; rw [mg_j, if_neg (show ¬ x < 0 from by have h0 := HX0.out; omega)] at this; rw [← this]; exact HM2.out⟩
    case rest =>
     clear HJ HM
     have HM := hcut
     clear hcut
     have hNl := HL.out.1
     have hkl := HKL.out
     have hq := HM.out.nget kk (by rw [List.length_set]; omega)
     rw [show rd (N.set kk cc) (kk : Int) = cc from by simp [rd, List.getElem?_set, show kk < N.length by omega]] at hq
     have hf := HM.out.nfrozen kk
     have HWR := Aside0.mk (show wrap64 ((kk : Int) + 1) = ((kk + 1 : Nat) : Int) from by rw [w64 (by omega) (by omega)]; rfl)
     clear hNl hkl
     by_cases hc0 : cc < 0
     · have d9 : decide (cc < 0) = true := decide_eq_true hc0
       have HC0 := Aside0.mk hc0
       clear hc0
       obtain ⟨A12, c12, e12⟩ := Kd.R_slice HM.out.a
       subst e12
       have HW2 := Aside0.mk (show wrap64 ((a.length : Int) + (Ad.length : Int) + 1) = (a.length : Int) + ((Ad ++ [(kk : Int)]).length : Int) from by rw [List.length_append]; have := HL.out.2.1; have := HKL.out; rw [w64 (by omega) (by omega)]; simp; omega)
       go_wp2_with (first
        | ((with_reducible refine gate_store (t := 3) (p := 80) rfl ?_); refine store_event (t := 3) (p := 80) (v := .tmp 79) (w1 := (wc.setCell ⟨gn, kk, none⟩ (.int .i64 ((a.length : Int) + (Ad.length : Int))))) ?hg ?ho ?hn ?hr ?_; (case ho => rfl); (case hg => rfl); (case hn => rfl); (case hr => first | (go_simp; done) | (go_simp; rfl)); intro W8 hw8; have HMn := Aside0.mk (show Nm w W8 gn cn (.slice A12 Ad.length c12) ((N.set kk cc).set kk ((a.length : Int) + (Ad.length : Int))) Ad from by rw [hw8]; exact HM.out.nset kk ((a.length : Int) + (Ad.length : Int))); clear hw8)
        | (at_builtin; refine Kd.R_append (Kd.int .i64) (w0 := w) w.heap.size rfl (.tmp 83) (.tmp 85) 34 3 (.int .i64 0) 8 rfl Try.underlying34 info3 rfl (Nat.lt_succ_self 0) (by omega) (.slice A12 Ad.length c12) Ad (kk : Int) [.int .i64 (kk : Int)] (fun k => k ≠ gn) (fun _ => False) rfl rfl rfl (fun _ hk => hk.elim) ?aF HMn.out.a HMn.out.bel HMn.out.bel.size ?aL ?_; (case aF => intro k_ hk; have := blk_lt HMn.out.ntyped.choose_spec; omega); (case aL => have := HL.out; have := HKL.out; have := HLAB.out; omega); intro v111 W5 ho5 hb5 hg5 hat5; have HM5 := Aside0.mk (HMn.out.push ho5 hb5 hg5); clear ho5 hb5 hg5 hat5))
       go_roundg dd
       case measure => omega
       case rel =>
        have hset : (N.set kk cc).set kk ((a.length : Int) + (Ad.length : Int)) = N.set kk ((a.length : Int) + (Ad.length : Int)) := List.set_set ..
        rw [hset] at HM5
        exact ⟨_, Ad ++ [(kk : Int)], kk + 1, by rw [HW2.out], by rw [HWR.out], ⟨by have := HK.out; omega⟩, ⟨by rw [List.length_set]; exact HL.out.1, by have := HL.out.2.1; rw [List.length_append]; simp; omega, fun x hx => by
         have hkl := HKL.out
         rcases List.mem_append.1 hx with h1 | h1
         · exact HL.out.2.2 x h1
         · simp at h1; subst h1; exact ⟨by omega, by omega⟩⟩, ⟨by have := HG.out; rwa [mg_k, HE.out, if_pos HC0.out] at this⟩, HM5⟩
     · have d9 : decide (cc < 0) = false := decide_eq_false hc0
       have HC0 := Aside0.mk hc0
       clear hc0
       go_wp2
       go_roundg dd
       case measure => omega
       case rel => exact ⟨N.set kk cc, Ad, kk + 1, rfl, by rw [HWR.out], ⟨by have := HK.out; omega⟩, ⟨by rw [List.length_set]; exact HL.out.1, by have := HL.out.2.1; omega, HL.out.2.2⟩, ⟨by have := HG.out; rwa [mg_k, HE.out, if_neg (show ¬ cc < 0 from by have h0 := HC0.out; omega)] at this⟩, HM⟩
end Go.Proofs.Ytpmlcmdojmdmhaa.PR
