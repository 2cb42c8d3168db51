/- records.Merge at two lists of types: it returns what the function 'records_Merge.f' tells. -/
import Derived.Test.YtpmlcmdojmdmhaaHMg
import Derived.Test.YtpmlcmdojmdmhaaPRxS
set_option linter.unusedVariables false
set_option linter.unusedSimpArgs false
set_option maxRecDepth 100000
namespace Go.Proofs.Ytpmlcmdojmdmhaa.PR
open Go.RowKit Go.Proofs.YtpmlcmdojmdmhaaW.PrintWords Go.Proofs.YtpmlcmdojmdmhaaW.PrintLast Go.Proofs.YtpmlcmdojmdmhaaW.PrintMore
attribute [local go_sem high] eqA25
theorem boxed2 {W : World} {g : Nat} {z0 z1 v0 v1 : Value} (h : W.heap[g]? = some (.cells #[z0, z1] 25 (0, 0))) : ((W.setCell ⟨g, 0, none⟩ v0).setCell ⟨g, 1, none⟩ v1).heap[g]? = some (.cells #[v0, v1] 25 (0, 0)) :=
 blk_put (blk_put h 0 v0 rfl) 1 v1 rfl
theorem clone39 (l : List S55) (h : l.length ≤ 1000) : api_Field_39.f l = some l := by
 unfold api_Field_39.f
 simp only [Option.bind_some, List.nil_append]
 rw [if_pos (by simp; omega)]
theorem clone_l0 (l : List S32) (h : l.length ≤ 1000) (hf : ∀ t ∈ l, t.f5.length ≤ 1000) : ∀ d i : Nat, i + d = l.length → records_Clone.l0 (d + 1) (l.take i) l (l.length : Int) (i : Int) = some l
 | 0, i, hi => by
  rw [records_Clone.l0, if_neg (by omega), List.take_of_length_le (by omega)]
 | d + 1, i, hi => by
  have hlt : i < l.length := by omega
  have e : rd_T32 l (i : Int) = l[i] := by rw [rd_T32_nat]; simp [hlt]
  rw [records_Clone.l0, if_pos (by omega), if_pos (by omega), if_pos (by omega), e, clone39 _ (hf _ (List.getElem_mem hlt))]
  simp only [Option.bind_some]
  rw [if_pos (by rw [List.length_take]; omega), w64 (by omega) (by omega)]
  have := clone_l0 l h hf d (i + 1) (by omega)
  rw [List.take_succ_eq_append_getElem hlt] at this
  exact this
theorem clone_eq (l : List S32) (h : l.length ≤ 1000) (hf : ∀ t ∈ l, t.f5.length ≤ 1000) : ∃ k, records_Clone.f k l = some l := ⟨l.length + 1, clone_l0 l h hf l.length 0 (by omega)⟩
theorem own_formG {α : Type} {d : Kd α} {e : Nat} {W : World} {base : Nat} {ok : Nat → Prop} {v : Value} {xs : List α} {m : Nat} (h : d.R e W base ok v xs) (hb : ∃ b, v.ownBlock = some b ∧ m ≤ b) : ∃ g cap, v = .slice (some ⟨g, 0, none⟩) xs.length cap ∧ xs.length ≤ cap := by
 obtain ⟨A, c, rfl, hl, _⟩ := Kd.R_reads h
 cases A with
 | none => obtain ⟨b, hb, _⟩ := hb; simp [Value.ownBlock] at hb
 | some ad =>
  obtain ⟨g, rfl⟩ := Kd.R_head h
  exact ⟨g, c, rfl, hl⟩
set_option maxHeartbeats 1000000 in
theorem records_Merge.calls (k : Nat) (A0 : Option Addr) (c0 : Nat) (l0 : List S32) (A1 : Option Addr) (c1 : Nat) (l1 : List S32) (r1 : List S32) (r2 : List Int) (r3 r4 : Int) (w : World) (hr0 : Kd.C k32 w A0 l0.length l0) (hc0 : l0.length ≤ c0) (hr1 : Kd.C k32 w A1 l1.length l1) (hc1 : l1.length ≤ c1)
 (h : records_Merge.f k l0 l1 = some (r1, r2, r3, r4)) :
 Calls Try.prog 21 #[.slice A0 l0.length c0, .slice A1 l1.length c1] w fun e w' => ∃ v0 v1, e = .returned (.tuple #[v0, v1, .agg #[.int .i64 r3, .int .i64 r4]]) ∧ Kd.R k32 32 w' w.heap.size (fun _ => True) v0 r1 ∧ Kd.R (Kd.int .i64) 3 w' w.heap.size (fun _ => True) v1 r2 ∧ Below w.heap.size w w' := by
 have HR0 := Aside0.mk hr0
 have HC0 := Aside0.mk hc0
 have HR1 := Aside0.mk hr1
 have HC1 := Aside0.mk hc1
 clear hr0 hc0 hr1 hc1
 unfold records_Merge.f at h
 obtain ⟨⟨x1, x2⟩, hv, h'⟩ := Option.bind_eq_some_iff.1 h
 clear h
 have h := h'
 clear h'
 have HV := Aside0.mk hv
 clear hv
 by_cases hx : (x1, x2) = ((0 : Int), (0 : Int))
 · rw [if_pos hx] at h
   obtain ⟨rfl, rfl⟩ : x1 = 0 ∧ x2 = 0 := by simpa using hx
   clear hx
   obtain ⟨⟨y1, y2⟩, hu, h'⟩ := Option.bind_eq_some_iff.1 h
   clear h
   have h := h'
   clear h'
   have HU := Aside0.mk hu
   clear hu
   by_cases hy : (y1, y2) = ((0 : Int), (0 : Int))
   · rw [if_pos hy] at h
     obtain ⟨rfl, rfl⟩ : y1 = 0 ∧ y2 = 0 := by simpa using hy
     clear hy
     split at h
     case isFalse => cases h
     case isTrue hsm =>
     obtain ⟨hs0, hs1, href⟩ := hsm
     obtain ⟨T, hT, h2⟩ := Option.bind_eq_some_iff.1 h
     clear h
     obtain ⟨O, hO, h⟩ := Option.bind_eq_some_iff.1 h2
     clear h2
     obtain ⟨hTl, hTw⟩ := pairs_shape hT
     obtain ⟨hOl, hOw⟩ := pairs_shape hO
     obtain ⟨⟨N1, Ad1⟩, hs⟩ : ∃ s, s = mg_k l0.length T O l1.length 0 (List.replicate l1.length 0) [] := ⟨_, rfl⟩
     have HS := Aside0.mk (show mg_k l0.length T O l1.length 0 (List.replicate l1.length 0) [] = (N1, Ad1) from hs.symm)
     have HF : Aside0 ((if l0.length + Ad1.length > 30 then some (([] : List S32), ([] : List Int), (10 : Int), (-4 : Int)) else some (l0 ++ Ad1.map fun q => ren N1 (rd_T32 l1 q), N1, 0, 0)) = some (r1, r2, r3, r4)) := ⟨by have := h; simp only [← hs] at this; exact this⟩
     clear h hs
     have HT := Aside0.mk hT
     have HO := Aside0.mk hO
     clear hT hO
     have HREF := Aside0.mk href
     have HSM := Aside0.mk (And.intro hs0 hs1)
     have hl0 := hs0.1
     have hl1 := hs1.1
     clear href hs0 hs1
     go_enter Try.func21, Try.ntmps21
     go_wp2_with (first
      | ((with_reducible refine gate_dst (N := 6) rfl ?_); refine box_event ?hg (N := 6) ?hd (cs := #[.int .i64 0, .int .i64 0]) (t := 25) ?hr ?_; (case hd => rfl); (case hg => rfl); (case hr => first | (go_simp; done) | (go_simp; rfl)); intro g6 hg6 W1 hbx6 hb6; have HB6 := Aside0.mk hb6; have BX6 := Aside0.mk hbx6; have HG6 := Aside0.mk (Nat.le_of_eq hg6.symm); clear hb6 hbx6 hg6)
      | (go_at_call 11; (with_reducible show Calls Try.prog 11 #[.slice A0 l0.length c0] _ _); refine (records_Validate.calls k _ _ l0 0 0 _ (Kd.C_below HR0.out HB6.out) HC0.out HV.out).mono ?_; rintro e W2 ⟨rfl, hb2⟩; have BX7 := Aside0.mk (blk_below BX6.out hb2); have HB2 := Aside0.mk (below_step HB6.out hb2); clear hb2)
      | (go_at_call 11; (with_reducible show Calls Try.prog 11 #[.slice A1 l1.length c1] _ _); refine (records_Validate.calls k _ _ l1 0 0 _ (Kd.C_below HR1.out (below_alloc HB2.out _)) HC1.out HU.out).mono ?_; rintro e W5 ⟨rfl, hb2⟩; have BX5 := Aside0.mk (blk_below (blk_alloc BX7.out _) hb2); have HB5 := Aside0.mk (below_step (below_alloc HB2.out _) hb2); clear hb2)
      | (go_at_call 29; (with_reducible show Calls Try.prog 29 #[.slice A0 l0.length c0, .slice A1 l1.length c1] _ _); refine (records_pairs.calls k _ _ l0 _ _ l1 T _ (Kd.C_below HR0.out (below_alloc HB5.out _)) HC0.out (Kd.C_below HR1.out (below_alloc HB5.out _)) HC1.out HT.out).mono ?_; rintro e W6 ⟨v9, rfl, ht6, hb6⟩; obtain ⟨A9, c9, rfl⟩ := Kd.S_slice ht6; have BX6b := Aside0.mk (blk_below (blk_alloc BX5.out _) hb6); have HB6b := Aside0.mk (below_step (below_alloc HB5.out _) hb6); have HT6 := Aside0.mk (Kd.S_lower ht6 (below_size (below_alloc HB5.out _))); clear hb6 ht6)
      | (go_at_call 29; (with_reducible show Calls Try.prog 29 #[.slice A1 l1.length c1, .slice A1 l1.length c1] _ _); refine (records_pairs.calls k _ _ l1 _ _ l1 O _ (Kd.C_below HR1.out HB6b.out) HC1.out (Kd.C_below HR1.out HB6b.out) HC1.out HO.out).mono ?_; rintro e W7 ⟨v10, rfl, ht7, hb7⟩; obtain ⟨A10, c10, rfl⟩ := Kd.S_slice ht7; have BX7b := Aside0.mk (blk_below BX6b.out hb7); have HB7b := Aside0.mk (below_step HB6b.out hb7); have HT7 := Aside0.mk (Kd.S_below HT6.out hb7); have HO7 := Aside0.mk (Kd.S_lower ht7 (below_size HB6b.out)); clear hb7 ht7)
      | ((with_reducible refine gate_dst (N := 43) rfl ?_); refine Kd.R_make (Kd.int .i64) (w0 := w) w.heap.size 3 rfl (N := 43) rfl 34 _ _ rfl (l1.length : Int) rfl rfl Try.underlying34 (.int .i64 0) 8 info3 rfl (Nat.lt_succ_self 0) (by omega) 0 (ok := fun _ => True) (okp := fun _ => True) rfl (fun _ hk => hk) trivial (by omega) (by omega) HB7b.out HB7b.out.size ?_; intro v43 W9 ho9 hb9 hg9 hat9; obtain ⟨gn, cn, rfl, _⟩ := own_formG ho9 hat9; (rw [List.length_replicate, Int.toNat_natCast] at ho9); have HN9 := Aside0.mk (Kd.R_mono (Kd.R_tight rfl ho9) (ok' := fun k => k = gn) (fun k hk => by simpa [Value.ownBlock] using hk)); have BX9 := Aside0.mk (blk_grown BX7b.out hg9 (by simp)); have HT9 := Aside0.mk (Kd.S_grown HT7.out hg9 (fun _ _ => by simp)); have HO9 := Aside0.mk (Kd.S_grown HO7.out hg9 (fun _ _ => by simp)); have HB9 := Aside0.mk hb9; clear ho9 hb9 hg9 hat9))
     have HM0 : Aside0 (Mg w W9 g6 gn cn A9 A10 c9 c10 (.slice none 0 0) T O (List.replicate l1.length 0) []) := ⟨BX9.out, HT9.out, HO9.out, by rw [List.length_replicate]; exact HN9.out, Kd.R_nil _ _ _ _ _, HB9.out, HG6.out⟩
     clear BX9 HT9 HO9 HN9 HB9 HG6
     go_loopg [12, 46] l1.length (fun kq v12 v46 w' => ∃ (N Ad : List Int) (kk : Nat), v46 = .int .i64 (kk : Int) ∧ Aside0 (kk + kq = l1.length) ∧ Aside0 (N.length = l1.length ∧ Ad.length ≤ kk ∧ ∀ x ∈ Ad, InN l1.length x) ∧ Aside0 (mg_k l0.length T O kq kk N Ad = (N1, Ad1)) ∧ Aside0 (Mg w w' g6 gn cn A9 A10 c9 c10 v12 T O N Ad))
     case atStart => exact ⟨_, [], 0, rfl, ⟨by omega⟩, ⟨by simp, by simp, fun x hx => by simp at hx⟩, HS, HM0⟩
     case round =>
      clear HS HM0 HV HU HT HO
      obtain ⟨N, Ad, kk, rfl, HK, HL, HG, HM⟩ := hrel
      cases gk with
      | zero =>
       obtain rfl : kk = l1.length := by have := HK.out; omega
       obtain ⟨rfl, rfl⟩ : N = N1 ∧ Ad = Ad1 := by have := HG.out; simpa [mg_k] using this
       obtain ⟨A12, c12, e12⟩ := Kd.R_slice HM.out.a
       subst e12
       have hAl := HL.out.2.1
       have d1 : decide ((l1.length : Int) < (l1.length : Int)) = false := decide_eq_false (by omega)
       have hq0 := (blk_cell HM.out.bx 0).trans rfl
       have hq1 := (blk_cell HM.out.bx 1).trans rfl
       have hp0 := blk_frozen HM.out.bx 0
       have hp1 := blk_frozen HM.out.bx 1
       by_cases hbig : l0.length + Ad.length > 30
       · have HB := HF.out
         rw [if_pos hbig] at HB
         obtain ⟨rfl, rfl, rfl, rfl⟩ : r1 = [] ∧ r2 = [] ∧ r3 = 10 ∧ r4 = -4 := by simpa [eq_comm] using HB
         clear HB HF
         have d2 : decide ((30 : Int) < (l0.length : Int) + (Ad.length : Int)) = true := decide_eq_true (by omega)
         go_wp2
         refine bodyPost_ret (results_list (rs := [.tmp 4, .tmp 5, .cell 6 25]) rfl (by simp) (.tmp (.tmp (.cell g6 25 #[.int .i64 10, .int .i64 (-4)] (0, 0) _ rfl (boxed2 HM.out.bx) Try.underlying25 rfl (by kernel_rfl) .nil)))) rfl ?_
         exact ⟨_, _, rfl, Kd.R_nil _ _ _ _ _, Kd.R_nil _ _ _ _ _, below_set (below_set HM.out.bel HM.out.lo) HM.out.lo⟩
       · have HB := HF.out
         rw [if_neg hbig] at HB
         have HR : Aside0 (l0 ++ Ad.map (fun q => ren N (rd_T32 l1 q)) = r1 ∧ N = r2 ∧ r3 = 0 ∧ r4 = 0) := ⟨by simpa [eq_comm] using HB⟩
         clear HB HF
         have d2 : decide ((30 : Int) < (l0.length : Int) + (Ad.length : Int)) = false := decide_eq_false (by omega)
         obtain ⟨kc, hkc⟩ := clone_eq l0 (by omega) (fun t ht => by have := HSM.out.1.2 t ht; omega)
         go_wp2_with (first
          | (go_at_call 32; (with_reducible show Calls Try.prog 32 #[.slice A0 l0.length c0] _ _); refine (records_Clone.calls kc _ _ l0 l0 _ (Kd.C_below HR0.out HM.out.bel) HC0.out hkc).mono ?_; rintro e W5 ⟨v16, rfl, ho5, hb5⟩; have HM5 := Aside0.mk (HM.out.step hb5); have HO5 := Aside0.mk (Kd.R_lower (Kd.S_R ho5) HM.out.bel.size); clear ho5 hb5))
         go_loopg [16, 124] Ad.length (fun kq v16 v124 w' => ∃ n : Nat, v124 = .int .i64 (n : Int) ∧ Aside0 (n + kq = Ad.length) ∧ Aside0 (Kd.R k32 32 w' w.heap.size (fun _ => True) v16 (l0 ++ (Ad.take n).map (fun q => ren N (rd_T32 l1 q)))) ∧ Aside0 (Mg w w' g6 gn cn A9 A10 c9 c10 (.slice A12 Ad.length c12) T O N Ad))
         case atStart => exact ⟨0, rfl, ⟨by omega⟩, by simpa using HO5, HM5⟩
         case round =>
          clear HO5 HM5 HM hq0 hq1 hp0 hp1
          obtain ⟨n, rfl, HN, HO, HM⟩ := hrel
          cases gk with
          | zero =>
           have hNl := HL.out.1
           obtain rfl : n = Ad.length := by have := HN.out; omega
           have hq0 := (blk_cell HM.out.bx 0).trans rfl
           have hq1 := (blk_cell HM.out.bx 1).trans rfl
           have hp0 := blk_frozen HM.out.bx 0
           have hp1 := blk_frozen HM.out.bx 1
           have d3 : decide ((Ad.length : Int) < (Ad.length : Int)) = false := decide_eq_false (by omega)
           go_wp2
           obtain ⟨rfl, rfl, rfl, rfl⟩ := HR.out
           refine bodyPost_ret (results_list (rs := [.tmp 4, .tmp 5, .cell 6 25]) rfl (by simp) (.tmp (.tmp (.cell g6 25 #[.int .i64 0, .int .i64 0] (0, 0) _ rfl (boxed2 HM.out.bx) Try.underlying25 rfl (by kernel_rfl) .nil)))) rfl ?_
           refine ⟨_, _, rfl, ?_, ?_, below_set (below_set HM.out.bel HM.out.lo) HM.out.lo⟩
           · have h := HO.out
             rw [List.take_of_length_le (Nat.le_refl _)] at h
             exact Kd.R_mono (Kd.R_far (p := ⟨g6, 1, none⟩) (Kd.R_far (p := ⟨g6, 0, none⟩) (Kd.R_types h HM.out.bx (by decide)) (fun _ hk => hk.2) _) (fun _ hk => hk.2) _) (fun _ _ => trivial)
           · have h := HM.out.n
             rw [hNl] at h
             exact Kd.R_mono (Kd.R_far (p := ⟨g6, 1, none⟩) (Kd.R_far (p := ⟨g6, 0, none⟩) (Kd.R_types h HM.out.bx (by decide)) (fun _ hk => hk.2) _) (fun _ hk => hk.2) _) (fun _ _ => trivial)
          | succ dd =>
           have hln : n < Ad.length := by have := HN.out; omega
           have hin := HL.out.2.2 _ (List.getElem_mem hln)
           obtain ⟨q, hq⟩ := Int.eq_ofNat_of_zero_le hin.1
           have hql : q < l1.length := by have := hin.2; omega
           obtain ⟨ad12, e12, hca⟩ := Kd.at_int (Kd.R_reads' HM.out.a).2.2 (n : Int) (by omega) (by omega)
           subst e12
           rw [Int.toNat_natCast, show rd Ad (n : Int) = (q : Int) from by rw [← hq]; simp [rd, hln]] at hca
           obtain ⟨t, ht⟩ : ∃ t, t = rd_T32 l1 (q : Int) := ⟨_, rfl⟩
           have hte : l1[q] = t := by rw [ht, rd_T32_nat]; simp [hql]
           have htm : t ∈ l1 := hte ▸ List.getElem_mem hql
           obtain ⟨hrefE, hrefF⟩ := HREF.out t htm
           have hf8 := HSM.out.2.2 t htm
           have HRE := Aside0.mk hrefE
           have HRF := Aside0.mk hrefF
           have HT0 := Aside0.mk ht
           obtain ⟨bd, _, _, e1, _⟩ := at_T32 HR1.out (q : Int) (by omega) (by omega)
           subst e1
           have hc1q := HC1.out
           have HCT : Aside0 (Kd.C k32 w (some (bd.add (q * 6))) 1 [t]) := ⟨by
            have h := Kd.C_mid (lo := q) (hi := q + 1) HR1.out (by omega) (by omega) HC1.out
            rw [if_neg (by omega), show (l1.take (q + 1)).drop q = [t] from by rw [List.take_succ_eq_append_getElem hql, List.drop_left' (by rw [List.length_take]; omega), hte]] at h
            exact h⟩
           obtain ⟨i32, hi32, hz32, hy32, _⟩ := info_parts info32
           have hcut : ∀ W : World, (Instr.slice 22 (.slice (some bd) l1.length c1) (some (.int .i64 (q : Int))) (some (.int .i64 ((q : Int) + 1))) none).run Try.prog W = .ok (.slice (some (bd.add (q * 6))) 1 (c1 - q)) W := fun W => by
            have h := cut_mid (P := Try.prog) 22 32 .i64 .i64 Try.underlying22 hi32 6 hy32 (some bd) l1.length c1 (q : Int) ((q : Int) + 1) (by omega) (by omega) (by omega) HC1.out W
            rw [if_neg (by omega), Int.toNat_natCast, show ((q : Int) + 1).toNat = q + 1 by omega, show q + 1 - q = 1 by omega] at h
            exact h
           obtain ⟨kc2, hkc2⟩ := clone_eq [t] (by simp) (fun x hx => by simp at hx; subst hx; omega)
           have d3 : decide ((n : Int) < (Ad.length : Int)) = true := decide_eq_true (by omega)
           have d4 : decide ((0 : Int) ≤ (n : Int)) = true := decide_eq_true (by omega)
           have d5 : ((0 : Int) ≤ (n : Int)) = True := eq_true (by omega)
           have d6 : ((n : Int) < (Ad.length : Int)) = True := eq_true (by omega)
           have HQ := Aside0.mk hq
           clear hq ht hte htm hrefE hrefF hin
           obtain ⟨bk, hbk⟩ : ∃ b : Bool, (b = true ↔ (t.f0 = 2 ∨ t.f0 = 3)) := ⟨decide (t.f0 = 2 ∨ t.f0 = 3), by simp⟩
           have HBK := Aside0.mk hbk
           clear hbk
           go_upto_region 36 with (first
            | (go_at_call 32; refine (records_Clone.calls kc2 (some (bd.add (q * 6))) (c1 - q) [t] [t] _ (Kd.C_below HCT.out HM.out.bel) (by simp; omega) hkc2).mono ?_; rintro e W6' ⟨v133, rfl, ho6, hb6⟩; obtain ⟨g3, cap3, rfl, _⟩ := Kd.S_form ho6 (by simp); obtain ⟨cs6, _, hM6, hcc6, _⟩ := Kd.R_elem (Kd.S_R ho6) z32 0 (by omega) (by simp); obtain ⟨v5, rfl, hF6⟩ := k32_openM hM6; obtain ⟨A5, c5, rfl⟩ := Kd.R_slice hF6; have hx0 : W6'.cell? ⟨g3, 0, none⟩ = some (.int .i64 t.f0) := hcc6 0 _ rfl; have hx1 : W6'.cell? ⟨g3, 1, none⟩ = some (.string t.f1) := hcc6 1 _ rfl; have hx2 : W6'.cell? ⟨g3, 2, none⟩ = some (.int .i64 t.f2) := hcc6 2 _ rfl; have hx3 : W6'.cell? ⟨g3, 3, none⟩ = some (.int .i64 t.f3) := hcc6 3 _ rfl; have hx4 : W6'.cell? ⟨g3, 4, none⟩ = some (.int .i64 t.f4) := hcc6 4 _ rfl; have hx5 : W6'.cell? ⟨g3, 5, none⟩ = some (.slice A5 t.f5.length c5) := hcc6 5 _ rfl; have HF6 : Aside0 (Kd.R k55 55 W6' wr.heap.size (fun _ => True) (.slice A5 t.f5.length c5) t.f5) := ⟨Kd.R_mono hF6 (fun _ _ => trivial)⟩; have HB6c : Aside0 (Below wr.heap.size wr W6') := ⟨hb6⟩; clear ho6 hb6 hcc6 hM6 hF6)
            | ((with_reducible refine gate_dst (N := 19) rfl ?_); refine box_event ?hg (N := 19) ?hd (cs := #[.int .i64 0, .string (⟨#[]⟩ : ByteArray), .int .i64 0, .int .i64 0, .int .i64 0, .slice none 0 0]) (t := 32) ?hr ?_; (case hd => rfl); (case hg => rfl); (case hr => first | (go_simp; done) | (go_simp; rfl)); intro gx hgb W7 hbx hb7; have hz0 := (blk_cell hbx 0).trans rfl; have hz1 := (blk_cell hbx 1).trans rfl; have hz2 := (blk_cell hbx 2).trans rfl; have hz3 := (blk_cell hbx 3).trans rfl; have hz4 := (blk_cell hbx 4).trans rfl; have hz5 := (blk_cell hbx 5).trans rfl; have hy0 := blk_frozen hbx 0; have hy1 := blk_frozen hbx 1; have hy2 := blk_frozen hbx 2; have hy3 := blk_frozen hbx 3; have hy4 := blk_frozen hbx 4; have hy5 := blk_frozen hbx 5; have HBX := Aside0.mk hbx; have HB7 := Aside0.mk (below_step HB6c.out hb7); have HF7 := Aside0.mk (Kd.R_below HF6.out hb7); have HGB := Aside0.mk (show wr.heap.size ≤ gx from by have := HB6c.out.size; omega); clear hbx hb7 hgb)
            | ((with_reducible refine gate_store (t := 32) (p := 19) rfl ?_); refine store_event (t := 32) (p := 19) (v := .tmp 135) (w1 := ((((((W7.setCell ⟨gx, 0, none⟩ (.int .i64 t.f0)).setCell ⟨gx, 1, none⟩ (.string t.f1)).setCell ⟨gx, 2, none⟩ (.int .i64 t.f2)).setCell ⟨gx, 3, none⟩ (.int .i64 t.f3)).setCell ⟨gx, 4, none⟩ (.int .i64 t.f4)).setCell ⟨gx, 5, none⟩ (.slice A5 t.f5.length c5))) ?hg ?ho ?hn ?hr ?_; (case ho => rfl); (case hg => rfl); (case hn => rfl); (case hr => first | (go_simp; done) | (go_simp; rfl)); intro W8 hw8; have BX8 : Aside0 (W8.heap[gx]? = some (.cells #[.int .i64 t.f0, .string t.f1, .int .i64 t.f2, .int .i64 t.f3, .int .i64 t.f4, .slice A5 t.f5.length c5] 32 (0, 0))) := ⟨by rw [hw8]; exact boxed6 HBX.out⟩; have HB8 : Aside0 (Below wr.heap.size wr W8) := ⟨by rw [hw8]; (repeat refine below_set ?_ HGB.out); exact HB7.out⟩; have HF8 : Aside0 (Kd.R k55 55 W8 wr.heap.size (fun k => k ≠ gx) (.slice A5 t.f5.length c5) t.f5) := ⟨by rw [hw8]; (repeat refine Kd.R_far ?_ (fun _ hk => hk) _); exact Kd.R_mono (Kd.R_types HF7.out HBX.out (by decide)) (fun _ hk => hk.2)⟩; clear hw8 hz0 hz1 hz2 hz3 hz4 hz5 hy0 hy1 hy2 hy3 hy4 hy5 HBX HB7 HF7))
           (try simp only [Act.put, List.setIfInBounds_toArray, List.set_cons_zero, List.set_cons_succ])
           go_cut [143] (fun v143 wc => v143 = .bool bk ∧ Aside0 (wc.heap[gx]? = some (.cells #[.int .i64 t.f0, .string t.f1, .int .i64 t.f2, .int .i64 t.f3, .int .i64 t.f4, .slice A5 t.f5.length c5] 32 (0, 0))) ∧ Aside0 (Below wr.heap.size wr wc) ∧ Aside0 (Kd.R k55 55 wc wr.heap.size (fun k => k ≠ gx) (.slice A5 t.f5.length c5) t.f5))
           case first =>
            have hX0 := (blk_cell BX8.out 0).trans rfl
            by_cases e2 : t.f0 = 2
            · have f2 : decide (t.f0 = 2) = true := decide_eq_true e2
              have f2' : (t.f0 == 2) = true := by simpa using e2
              go_wp2
              go_meet
              case rel => exact ⟨by have h := HBK.out; simp [e2] at h; rw [h], BX8, HB8, HF8⟩
            · have f2 : decide (t.f0 = 2) = false := decide_eq_false e2
              have f2' : (t.f0 == 2) = false := by simpa using e2
              by_cases e3 : t.f0 = 3
              · have f3 : decide (t.f0 = 3) = true := decide_eq_true e3
                have f3' : (t.f0 == 3) = true := by simpa using e3
                go_wp2
                go_meet
                case rel => exact ⟨by have h := HBK.out; simp [e3] at h; rw [h], BX8, HB8, HF8⟩
              · have f3 : decide (t.f0 = 3) = false := decide_eq_false e3
                have f3' : (t.f0 == 3) = false := by simpa using e3
                go_wp2
                go_meet
                case rel => exact ⟨by have h := HBK.out; simp [e2, e3] at h; rw [h], BX8, HB8, HF8⟩
           case rest =>
            clear BX8 HB8 HF8 HB6c HF6 hx0 hx1 hx2 hx3 hx4 hx5
            obtain ⟨rfl, BX8, HB8, HF8⟩ := hcut
            go_upto_if 143 with (fail)
            go_cut [] (fun wc => Aside0 (wc.heap[gx]? = some (.cells #[.int .i64 t.f0, .string t.f1, .int .i64 t.f2, .int .i64 (renE N t), .int .i64 t.f4, .slice A5 t.f5.length c5] 32 (0, 0))) ∧ Aside0 (Below wr.heap.size wr wc) ∧ Aside0 (Kd.R k55 55 wc wr.heap.size (fun k => k ≠ gx) (.slice A5 t.f5.length c5) t.f5))
            case first =>
             cases bk with
             | true =>
              have hE : t.f0 = 2 ∨ t.f0 = 3 := HBK.out.1 rfl
              obtain ⟨e, he⟩ := Int.eq_ofNat_of_zero_le (HRE.out hE).1
              have hel : e < l1.length := by have := (HRE.out hE).2; omega
              have hX3 : wc.cell? ⟨gx, 3, none⟩ = some (.int .i64 (e : Int)) := by rw [← he]; exact (blk_cell BX8.out 3).trans rfl
              have hY3 := blk_frozen BX8.out 3
              have hne := (HM.out.step HB8.out).nget e (by have := HL.out.1; omega)
              have d7 : decide ((0 : Int) ≤ (e : Int)) = true := decide_eq_true (by omega)
              have d8 : decide ((e : Int) < (l1.length : Int)) = true := decide_eq_true (by omega)
              have d9 : ((0 : Int) ≤ (e : Int)) = True := eq_true (by omega)
              have d10 : ((e : Int) < (l1.length : Int)) = True := eq_true (by omega)
              have HE3 := Aside0.mk he
              have HEE := Aside0.mk hE
              clear he hE
              go_wp2
              go_meet
              case rel => exact ⟨⟨by
               have e1 : renE N t = rd N (e : Int) := by rw [renE, if_pos HEE.out, HE3.out]
               rw [e1]
               exact blk_put BX8.out 3 _ rfl⟩, ⟨below_set HB8.out HGB.out⟩, ⟨Kd.R_far HF8.out (fun _ hk => hk) _⟩⟩
             | false =>
              have HEE := Aside0.mk (show ¬ (t.f0 = 2 ∨ t.f0 = 3) from fun h => by have := HBK.out.2 h; cases this)
              go_wp2
              go_meet
              case rel => exact ⟨⟨by rw [renE, if_neg HEE.out]; exact BX8.out⟩, HB8, HF8⟩
            case rest =>
             clear BX8 HB8 HF8
             obtain ⟨BX8, HB8, HF8⟩ := hcut
             have HMx := Aside0.mk (HM.out.step HB8.out)
             have HFx : Aside0 (Kd.R k55 55 wc w.heap.size (fun k => k ≠ gx) (.slice A5 t.f5.length c5) t.f5) := ⟨Kd.R_lower HF8.out HM.out.bel.size⟩
             have HOx : Aside0 (Kd.R k32 32 wc w.heap.size (fun k => k ≠ gx ∧ some k ≠ (Value.slice A5 t.f5.length c5).ownBlock) u16 (l0 ++ (Ad.take n).map (fun q => ren N (rd_T32 l1 q)))) := ⟨Kd.R_mono (Kd.R_below (Kd.R_bound HO.out) HB8.out) (fun k hk => ⟨by have := hk.2.2.1; have := HGB.out; omega, fun e => by have := Kd.R_base HF8.out k e.symm; have := hk.2.2.1; omega⟩)⟩
             clear HM HO HF8 HB8
             have hX5 := (blk_cell BX8.out 5).trans rfl
             go_wp2
             go_loopg [153] t.f5.length (fun kq v153 w' => ∃ j : Nat, v153 = .int .i64 (j : Int) ∧ Aside0 (j + kq = t.f5.length) ∧ Aside0 (w'.heap[gx]? = some (.cells #[.int .i64 t.f0, .string t.f1, .int .i64 t.f2, .int .i64 (renE N t), .int .i64 t.f4, .slice A5 t.f5.length c5] 32 (0, 0))) ∧ Aside0 (Mg w w' g6 gn cn A9 A10 c9 c10 (.slice (some ad12) Ad.length c12) T O N Ad) ∧ Aside0 (Kd.R k55 55 w' w.heap.size (fun k => k ≠ gx) (.slice A5 t.f5.length c5) ((t.f5.take j).map (renF N) ++ t.f5.drop j)) ∧ Aside0 (Kd.R k32 32 w' w.heap.size (fun k => k ≠ gx ∧ some k ≠ (Value.slice A5 t.f5.length c5).ownBlock) u16 (l0 ++ (Ad.take n).map (fun q => ren N (rd_T32 l1 q)))))
             case atStart => exact ⟨0, rfl, ⟨by omega⟩, BX8, HMx, by simpa using HFx, HOx⟩
             case round =>
              clear HMx HFx HOx BX8 hX5
              obtain ⟨j, rfl, HJ, BX8, HMx, HFx, HOx⟩ := hrel
              cases gk with
              | zero =>
               obtain rfl : j = t.f5.length := by have := HJ.out; omega
               have d7 : decide ((t.f5.length : Int) < (t.f5.length : Int)) = false := decide_eq_false (by omega)
               have hX0 := (blk_cell BX8.out 0).trans rfl
               have hX1 := (blk_cell BX8.out 1).trans rfl
               have hX2 := (blk_cell BX8.out 2).trans rfl
               have hX3 := (blk_cell BX8.out 3).trans rfl
               have hX4 := (blk_cell BX8.out 4).trans rfl
               have hX5 := (blk_cell BX8.out 5).trans rfl
               have HFy : Aside0 (Kd.R k55 55 wr w.heap.size (fun k => k ≠ gx) (.slice A5 t.f5.length c5) (t.f5.map (renF N))) := ⟨by have h := HFx.out; rw [List.take_of_length_le (Nat.le_refl _), List.drop_eq_nil_of_le (Nat.le_refl _), List.append_nil] at h; exact h⟩
               have hol : (l0 ++ (Ad.take n).map (fun q => ren N (rd_T32 l1 q))).length ≤ 60 := by have := HL.out.2.1; simp; omega
               have HOL := Aside0.mk hol
               clear hol
               go_wp2_with (first
                | (at_builtin; refine Kd.R_append k32 (w0 := w) w.heap.size rfl (.tmp 171) (.tmp 173) 22 32 (.agg #[(.int .i64 0), (.string ⟨#[]⟩), (.int .i64 0), (.int .i64 0), (.int .i64 0), (.slice none 0 0)]) 72 rfl Try.underlying22 info32 rfl (by decide) (by omega) u16 (l0 ++ (Ad.take n).map (fun q => ren N (rd_T32 l1 q))) (ren N t) [.int .i64 t.f0, .string t.f1, .int .i64 t.f2, .int .i64 (renE N t), .int .i64 t.f4, .slice A5 t.f5.length c5] (fun _ => True) (fun k_ => some k_ = (Value.slice A5 t.f5.length c5).ownBlock) rfl rfl ?aP (fun k_ hk_ => ⟨trivial, fun e_ => (HOx.out.1 k_ e_.symm).2 hk_⟩) (fun _ _ => trivial) (Kd.R_mono HOx.out (fun _ _ => trivial)) HMx.out.bel HMx.out.bel.size ?aL2 ?_; (case aP => have h := k32_mkM wr w.heap.size (fun k_ => some k_ = (Value.slice A5 t.f5.length c5).ownBlock) (ren N t) (Kd.R_tight rfl HFy.out); exact h); (case aL2 => have := HOL.out; omega); intro v174 W5 ho5 hb5 hg5 hat5; have HM5 := Aside0.mk (HMx.out.other (Kd.R_typed HOx.out) hb5 hg5); have HO5 := Aside0.mk ho5; clear ho5 hb5 hg5 hat5))
               go_roundg dd
               case measure => omega
               case rel =>
                have e1 : l0 ++ (Ad.take (n + 1)).map (fun q => ren N (rd_T32 l1 q)) = l0 ++ (Ad.take n).map (fun q => ren N (rd_T32 l1 q)) ++ [ren N t] := by
                 rw [List.take_succ_eq_append_getElem hln, List.map_append, List.append_assoc, HT0.out, ← HQ.out]
                 rfl
                exact ⟨n + 1, rfl, ⟨by have := HN.out; omega⟩, ⟨by rw [e1]; exact HO5.out⟩, HM5⟩
              | succ d2' =>
               have hlj : j < t.f5.length := by have := HJ.out; omega
               obtain ⟨f, hf⟩ : ∃ f, f = t.f5[j] := ⟨_, rfl⟩
               have hfm : f ∈ t.f5 := hf ▸ List.getElem_mem hlj
               obtain ⟨p, hp⟩ := Int.eq_ofNat_of_zero_le (HRF.out f hfm).1
               have hpl : p < l1.length := by have := (HRF.out f hfm).2; omega
               have hll : ((t.f5.take j).map (renF N) ++ t.f5.drop j).length = t.f5.length := by simp; omega
               have hgd : ((t.f5.take j).map (renF N) ++ t.f5.drop j).getD j z55 = f := by
                rw [List.getD_eq_getElem?_getD, List.getElem?_append_right (by simp; omega), List.length_map, List.length_take, show j - min j t.f5.length = 0 by omega, List.getElem?_drop, Nat.add_zero, List.getElem?_eq_getElem hlj, hf]
                rfl
               obtain ⟨gf, capf, ef, hgf, hgl, cellsf, hcf⟩ := Kd.R_form HFx.out (by rw [hll]; omega)
               injection ef with ef1 ef2 ef3
               subst ef1
               subst ef3
               obtain ⟨cs7, hl7, hM7, hcc7, hfz7⟩ := Kd.R_elem HFx.out z55 (j : Int) (by omega) (by omega)
               rw [Int.toNat_natCast, hgd] at hM7
               obtain rfl := k55_openM hM7
               rw [Int.toNat_natCast] at hcc7
               have hc1 : wr.cell? ⟨gf, j * 3 + 1, none⟩ = some (.int .i64 (p : Int)) := by rw [← hp]; exact hcc7 1 _ rfl
               have hf1 : wr.frozen? ⟨gf, j * 3 + 1, none⟩ = false := blk_frozen hcf _
               have hX5 : wr.cell? ⟨gx, 5, none⟩ = some (.slice (some ⟨gf, 0, none⟩) t.f5.length c5) := (blk_cell BX8.out 5).trans rfl
               have hne := HMx.out.nget p (by have := HL.out.1; omega)
               have d7 : decide ((j : Int) < (t.f5.length : Int)) = true := decide_eq_true (by omega)
               have d8 : decide ((0 : Int) ≤ (j : Int)) = true := decide_eq_true (by omega)
               have d9 : ((0 : Int) ≤ (j : Int)) = True := eq_true (by omega)
               have d10 : ((j : Int) < (t.f5.length : Int)) = True := eq_true (by omega)
               have d11 : decide ((0 : Int) ≤ (p : Int)) = true := decide_eq_true (by omega)
               have d12 : decide ((p : Int) < (l1.length : Int)) = true := decide_eq_true (by omega)
               have d13 : ((0 : Int) ≤ (p : Int)) = True := eq_true (by omega)
               have d14 : ((p : Int) < (l1.length : Int)) = True := eq_true (by omega)
               have hgxf := blk_ne BX8.out hcf (by decide)
               have hgnf := blk_ne HMx.out.ntyped.choose_spec hcf (by decide)
               have HCC := Aside0.mk hcc7
               have HP := Aside0.mk hp
               have HFJ := Aside0.mk hf
               have HCF := Aside0.mk hcf
               have HLL := Aside0.mk hll
               have HGD := Aside0.mk hgd
               clear hM7 hfz7 hcc7 hp hf hfm hgd hll hcf hl7 ef2
               go_wp2
               refine start_ (n := 15) (S := fun w' => w'.cell? ⟨gx, 5, none⟩ = some (.slice (some ⟨gf, 0, none⟩) t.f5.length c5) ∧ w'.cell? ⟨gn, p, none⟩ = some (.int .i64 (rd N (p : Int))) ∧ w'.cell? ⟨gf, j * 3 + 1, none⟩ = some (.int .i64 (p : Int))) (ds := [14]) #[false, false, false, false, false, false, false, false, false, false, false, false, false, false, false] (by kernel_rfl) rfl rfl ⟨hX5, hne, hc1⟩ (fun hHeld => ?_)
               refine pure_ (i := 0) (N := some 156) (v := ?_) (a' := ?_) #[true, false, false, false, false, false, false, false, false, false, false, false, false, false, false] rfl rfl (by kernel_rfl) (fun _ _ _ h => h) (Or.inl ⟨by rfl, ?_⟩) ?_ ?_
               rotate_left
               · intro w'
                 go_simp
                 with_reducible rfl
               rotate_left
               · simp only [Act.put, List.setIfInBounds_toArray, List.set_cons_zero, List.set_cons_succ, i64_w, i32_w]
                 rfl
               refine pure_ (i := 2) (N := some 158) (v := ?_) (a' := ?_) #[true, false, true, false, false, false, false, false, false, false, false, false, false, false, false] rfl rfl (by kernel_rfl) (fun _ _ _ h => h) (Or.inl ⟨by rfl, ?_⟩) ?_ ?_
               rotate_left
               · intro w'
                 go_simp
                 with_reducible rfl
               rotate_left
               · simp only [Act.put, List.setIfInBounds_toArray, List.set_cons_zero, List.set_cons_succ, i64_w, i32_w]
                 rfl
               refine pure_ (i := 3) (N := some 159) (v := ?_) (a' := ?_) #[true, false, true, true, false, false, false, false, false, false, false, false, false, false, false] rfl rfl (by kernel_rfl) (fun _ _ _ h => h) (Or.inl ⟨by rfl, ?_⟩) ?_ ?_
               rotate_left
               · intro w'
                 go_simp
                 with_reducible rfl
               rotate_left
               · simp only [Act.put, List.setIfInBounds_toArray, List.set_cons_zero, List.set_cons_succ, i64_w, i32_w]
                 rfl
               refine pure_ (i := 4) (N := some 160) (v := ?_) (a' := ?_) #[true, false, true, true, true, false, false, false, false, false, false, false, false, false, false] rfl rfl (by kernel_rfl) (fun _ _ _ h => h) (Or.inl ⟨by rfl, ?_⟩) ?_ ?_
               rotate_left
               · intro w'
                 go_simp
                 with_reducible rfl
               rotate_left
               · simp only [Act.put, List.setIfInBounds_toArray, List.set_cons_zero, List.set_cons_succ, i64_w, i32_w]
                 rfl
               refine pure_ (i := 6) (N := some 162) (v := ?_) (a' := ?_) #[true, false, true, true, true, false, true, false, false, false, false, false, false, false, false] rfl rfl (by kernel_rfl) (fun _ _ _ h => h) (Or.inl ⟨by rfl, ?_⟩) ?_ ?_
               rotate_left
               · intro w'
                 go_simp
                 with_reducible rfl
               rotate_left
               · simp only [Act.put, List.setIfInBounds_toArray, List.set_cons_zero, List.set_cons_succ, i64_w, i32_w]
                 rfl
               refine take_ (i := 1) (N := some 157) (v := ?_) (a' := ?_) #[true, true, true, true, true, false, true, false, false, false, false, false, false, false, false] rfl rfl (by kernel_rfl) (fun _ _ _ h => h) (Or.inl ⟨by rfl, ?_⟩) hHeld ?_ ?_
               rotate_left
               · rintro w' ⟨s0, s1, s2⟩
                 go_simp
                 with_reducible rfl
               rotate_left
               · simp only [Act.put, List.setIfInBounds_toArray, List.set_cons_zero, List.set_cons_succ, i64_w, i32_w]
                 rfl
               refine take_ (i := 5) (N := some 161) (v := ?_) (a' := ?_) #[true, true, true, true, true, true, true, false, false, false, false, false, false, false, false] rfl rfl (by kernel_rfl) (fun _ _ _ h => h) (Or.inl ⟨by rfl, ?_⟩) hHeld ?_ ?_
               rotate_left
               · rintro w' ⟨s0, s1, s2⟩
                 go_simp
                 with_reducible rfl
               rotate_left
               · simp only [Act.put, List.setIfInBounds_toArray, List.set_cons_zero, List.set_cons_succ, i64_w, i32_w]
                 rfl
               refine pure_ (i := 7) (N := some 163) (v := ?_) (a' := ?_) #[true, true, true, true, true, true, true, true, false, false, false, false, false, false, false] rfl rfl (by kernel_rfl) (fun _ _ _ h => h) (Or.inl ⟨by rfl, ?_⟩) ?_ ?_
               rotate_left
               · intro w'
                 go_simp
                 with_reducible rfl
               rotate_left
               · simp only [Act.put, List.setIfInBounds_toArray, List.set_cons_zero, List.set_cons_succ, i64_w, i32_w]
                 rfl
               refine pure_ (i := 8) (N := some 164) (v := ?_) (a' := ?_) #[true, true, true, true, true, true, true, true, true, false, false, false, false, false, false] rfl rfl (by kernel_rfl) (fun _ _ _ h => h) (Or.inl ⟨by rfl, ?_⟩) ?_ ?_
               rotate_left
               · intro w'
                 go_simp
                 with_reducible rfl
               rotate_left
               · simp only [Act.put, List.setIfInBounds_toArray, List.set_cons_zero, List.set_cons_succ, i64_w, i32_w]
                 rfl
               refine take_ (i := 9) (N := some 165) (v := ?_) (a' := ?_) #[true, true, true, true, true, true, true, true, true, true, false, false, false, false, false] rfl rfl (by kernel_rfl) (fun _ _ _ h => h) (Or.inl ⟨by rfl, ?_⟩) hHeld ?_ ?_
               rotate_left
               · rintro w' ⟨s0, s1, s2⟩
                 go_simp
                 with_reducible rfl
               rotate_left
               · simp only [Act.put, List.setIfInBounds_toArray, List.set_cons_zero, List.set_cons_succ, i64_w, i32_w]
                 rfl
               refine pure_ (i := 10) (N := some 166) (v := ?_) (a' := ?_) #[true, true, true, true, true, true, true, true, true, true, true, false, false, false, false] rfl rfl (by kernel_rfl) (fun _ _ _ h => h) (Or.inl ⟨by rfl, ?_⟩) ?_ ?_
               rotate_left
               · intro w'
                 go_simp
                 with_reducible rfl
               rotate_left
               · simp only [Act.put, List.setIfInBounds_toArray, List.set_cons_zero, List.set_cons_succ, i64_w, i32_w]
                 rfl
               refine take_ (i := 11) (N := some 167) (v := ?_) (a' := ?_) #[true, true, true, true, true, true, true, true, true, true, true, true, false, false, false] rfl rfl (by kernel_rfl) (fun _ _ _ h => h) (Or.inl ⟨by rfl, ?_⟩) hHeld ?_ ?_
               rotate_left
               · rintro w' ⟨s0, s1, s2⟩
                 go_simp
                 with_reducible rfl
               rotate_left
               · simp only [Act.put, List.setIfInBounds_toArray, List.set_cons_zero, List.set_cons_succ, i64_w, i32_w]
                 rfl
               refine pure_ (i := 12) (N := some 168) (v := ?_) (a' := ?_) #[true, true, true, true, true, true, true, true, true, true, true, true, true, false, false] rfl rfl (by kernel_rfl) (fun _ _ _ h => h) (Or.inl ⟨by rfl, ?_⟩) ?_ ?_
               rotate_left
               · intro w'
                 go_simp
                 with_reducible rfl
               rotate_left
               · simp only [Act.put, List.setIfInBounds_toArray, List.set_cons_zero, List.set_cons_succ, i64_w, i32_w]
                 rfl
               refine pure_ (i := 13) (N := some 169) (v := ?_) (a' := ?_) #[true, true, true, true, true, true, true, true, true, true, true, true, true, true, false] rfl rfl (by kernel_rfl) (fun _ _ _ h => h) (Or.inl ⟨by rfl, ?_⟩) ?_ ?_
               rotate_left
               · intro w'
                 go_simp
                 with_reducible rfl
               rotate_left
               · simp only [Act.put, List.setIfInBounds_toArray, List.set_cons_zero, List.set_cons_succ, i64_w, i32_w]
                 rfl
               refine last_ (i := 14) (N := none) #[true, true, true, true, true, true, true, true, true, true, true, true, true, true, true] rfl rfl (by kernel_rfl) (by decide) (fun K hK => ?_)
               refine skip_ (w1 := ?_) (by rfl) rfl ?_ ?_
               rotate_left
               · go_simp
                 rfl
               refine hK.out _ _ ?_
               clear hK K
               refine done_ (by kernel_rfl) ?_
               go_wp2
               go_roundg d2'
               case measure => omega
               case rel =>
                have e1 : ((t.f5.take j).map (renF N) ++ t.f5.drop j).set j (renF N f) = (t.f5.take (j + 1)).map (renF N) ++ t.f5.drop (j + 1) := by
                 rw [List.set_append_right _ _ (by simp; omega), List.length_map, List.length_take, show j - min j t.f5.length = 0 by omega, List.drop_eq_getElem_cons hlj, List.set_cons_zero, List.take_succ_eq_append_getElem hlj, List.map_append, List.append_assoc, HFJ.out]
                 rfl
                obtain ⟨h1, h2⟩ := Kd.R_seg HFx.out (j : Int) (by omega) (by omega) (c := [.string f.f0, .int .i64 f.f1, .int .i64 f.f2]) (seg := [.int .i64 (rd N f.f1)]) (j := 1) (x' := renF N f) (okp := fun _ => False) rfl
                 (by rw [Int.toNat_natCast]; exact HCC.out) (by show 1 + 1 ≤ 3; omega) (k55_mkM _ _ _ _) (fun _ hk => hk.elim)
                rw [Int.toNat_natCast, e1] at h1
                rw [← HP.out]
                exact ⟨j + 1, rfl, ⟨by have := HJ.out; omega⟩, ⟨blk_drew (blk_far BX8.out (blk_ne BX8.out HCF.out (by decide)) _)⟩, ⟨(HMx.out.far HCF.out hgf _ _).step (below_drew (Below.refl _ _))⟩, ⟨Kd.R_drew h1⟩, ⟨Kd.R_drew (Kd.R_far (p := ⟨gf, j * 3 + 1, none⟩) HOx.out (fun k hk e => hk.2 (by simp [Value.ownBlock, e])) _)⟩⟩
      | succ dd =>
       have hlt : kk < l1.length := by have := HK.out; omega
       have hNl := HL.out.1
       obtain ⟨c, hc⟩ : ∃ c, c = mg_i T kk l0.length 0 := ⟨_, rfl⟩
       obtain ⟨cc, hcc⟩ : ∃ cc, cc = mg_c l0.length T O kk N := ⟨_, rfl⟩
       have HC := Aside0.mk hc.symm
       have HJ : Aside0 (mg_j O N kk kk 0 c = cc) := ⟨by rw [hcc, hc]; rfl⟩
       have HE := Aside0.mk hcc.symm
       clear hc hcc
       have d1 : decide ((kk : Int) < (l1.length : Int)) = true := decide_eq_true (by omega)
       have d2 : decide ((0 : Int) ≤ (kk : Int)) = true := decide_eq_true (by omega)
       have d3 : ((0 : Int) ≤ (kk : Int)) = True := eq_true (by omega)
       have d4 : ((kk : Int) < (l1.length : Int)) = True := eq_true (by omega)
       have hq := HM.out.nget kk (by omega)
       have hf := HM.out.nfrozen kk
       go_upto_block 2 with (fail)
       go_cut [] (fun wc => Aside0 (Mg w wc g6 gn cn A9 A10 c9 c10 u12 T O (N.set kk c) Ad))
       case first =>
        go_wp2
        go_loopg [54] l0.length (fun kq v54 w' => ∃ i : Nat, v54 = .int .i64 (i : Int) ∧ Aside0 (i + kq = l0.length) ∧ Aside0 (mg_i T kk kq i = c) ∧ Aside0 (Mg w w' g6 gn cn A9 A10 c9 c10 u12 T O (N.set kk (-1)) Ad))
        case atStart => exact ⟨0, rfl, ⟨by omega⟩, HC, ⟨HM.out.nset kk (-1)⟩⟩
        case round =>
         clear HC hq hf
         obtain ⟨i, rfl, HI, HCi, HM2⟩ := hrel
         cases gk with
         | zero =>
          obtain rfl : i = l0.length := by have := HI.out; omega
          have d5 : decide ((l0.length : Int) < (l0.length : Int)) = false := decide_eq_false (by omega)
          go_wp2
          go_meet
          case rel => exact ⟨by have := HCi.out; rw [mg_i] at this; rw [← this]; exact HM2.out⟩
         | succ d2' =>
          have hli : i < l0.length := by have := HI.out; omega
          obtain ⟨ad, ai, ci, e, hc1, hc2⟩ := tab_cells HM2.out.t hTw i kk (by omega) (by omega)
          subst e
          have d5 : decide ((i : Int) < (l0.length : Int)) = true := decide_eq_true (by omega)
          have d6 : decide ((0 : Int) ≤ (i : Int)) = true := decide_eq_true (by omega)
          have d7 : ((0 : Int) ≤ (i : Int)) = True := eq_true (by omega)
          have d8 : ((i : Int) < (l0.length : Int)) = True := eq_true (by omega)
          by_cases htv : tabAt T i kk = true
          · rw [htv] at hc2
            have hq := HM2.out.nget kk (by rw [List.length_set]; omega)
            have hf := HM2.out.nfrozen kk
            go_wp2
            go_meet
            case rel => exact ⟨by
             have h1 := HM2.out.nset kk (i : Int)
             rw [List.set_set] at h1
             have := HCi.out
             rw [mg_i, if_pos htv] at this
             rw [← this]
             exact h1⟩
          · have htf : tabAt T i kk = false := by simpa using htv
            rw [htf] at hc2
            go_wp2
            go_roundg d2'
            case measure => omega
            case rel => exact ⟨i + 1, rfl, ⟨by have := HI.out; omega⟩, ⟨by have := HCi.out; rwa [mg_i, if_neg htv] at this⟩, HM2⟩
       case rest =>
        clear HC hq hf HM
        have HM := hcut
        clear hcut
        have d1 : decide ((kk : Int) < (l1.length : Int)) = true := decide_eq_true (by omega)
        go_upto_block 4 with (fail)
        go_cut [] (fun wc => Aside0 (Mg w wc g6 gn cn A9 A10 c9 c10 u12 T O (N.set kk cc) Ad))
        case first =>
         go_wp2
         go_loopg [15] kk (fun kq v15 w' => ∃ (j : Nat) (x : Int), v15 = .int .i64 (j : Int) ∧ Aside0 (j + kq = kk) ∧ Aside0 (mg_j O N kk kq j x = cc) ∧ Aside0 (Mg w w' g6 gn cn A9 A10 c9 c10 u12 T O (N.set kk x) Ad))
         case atStart => exact ⟨0, c, rfl, ⟨by omega⟩, HJ, HM⟩
         case round =>
          clear HJ HM
          obtain ⟨j, x, rfl, HI, HCj, HM2⟩ := hrel
          cases gk with
          | zero =>
           obtain rfl : j = kk := by have := HI.out; omega
           have d5 : decide ((j : Int) < (j : Int)) = false := decide_eq_false (by omega)
           go_wp2
           go_meet
           case rel => exact ⟨by have := HCj.out; rw [mg_j] at this; rw [← this]; exact HM2.out⟩
          | succ d2' =>
           have hlj : j < kk := by have := HI.out; omega
           have d5 : decide ((j : Int) < (kk : Int)) = true := decide_eq_true (by omega)
           have d6 : decide ((0 : Int) ≤ (j : Int)) = true := decide_eq_true (by omega)
           have d7 : ((0 : Int) ≤ (j : Int)) = True := eq_true (by omega)
           have d8 : ((j : Int) < (l1.length : Int)) = True := eq_true (by omega)
           have hq := HM2.out.nget kk (by rw [List.length_set]; omega)
           rw [show rd (N.set kk x) (kk : Int) = x from by simp [rd, List.getElem?_set, show kk < N.length by omega]] at hq
           have hf := HM2.out.nfrozen kk
           by_cases hx0 : x < 0
           · have d9 : decide (x < 0) = true := decide_eq_true hx0
             obtain ⟨ad, ai, ci, e, hc1, hc2⟩ := tab_cells HM2.out.o hOw j kk (by omega) (by omega)
             subst e
             by_cases htv : tabAt O j kk = true
             · rw [htv] at hc2
               have hqj := HM2.out.nget j (by rw [List.length_set]; omega)
               rw [show rd (N.set kk x) (j : Int) = rd N (j : Int) from by simp [rd, List.getElem?_set, show kk ≠ j by omega]] at hqj
               go_wp2
               go_roundg d2'
               case measure => omega
               case rel => exact ⟨j + 1, rd N (j : Int), rfl, ⟨by have := HI.out; omega⟩, ⟨by have := HCj.out; rwa [mg_j, if_pos hx0, if_pos htv] at this⟩, ⟨by have h1 := HM2.out.nset kk (rd N (j : Int)); rw [List.set_set] at h1; exact h1⟩⟩
             · have htf : tabAt O j kk = false := by simpa using htv
               rw [htf] at hc2
               go_wp2
               go_roundg d2'
               case measure => omega
               case rel => exact ⟨j + 1, x, rfl, ⟨by have := HI.out; omega⟩, ⟨by have := HCj.out; rwa [mg_j, if_pos hx0, if_neg htv] at this⟩, HM2⟩
           · have d9 : decide (x < 0) = false := decide_eq_false hx0
             go_wp2
             go_meet
             case rel => exact ⟨by have := HCj.out; rw [mg_j, if_neg (by omega : ¬ x < 0)] at this; rw [← this]; exact HM2.out⟩
        case rest =>
         clear HJ HM
         have HM := hcut
         clear hcut
         have d1 : decide ((kk : Int) < (l1.length : Int)) = true := decide_eq_true (by omega)
         have hq := HM.out.nget kk (by rw [List.length_set]; omega)
         rw [show rd (N.set kk cc) (kk : Int) = cc from by simp [rd, List.getElem?_set, show kk < N.length by omega]] at hq
         have hf := HM.out.nfrozen kk
         by_cases hc0 : cc < 0
         · have d9 : decide (cc < 0) = true := decide_eq_true hc0
           obtain ⟨A12, c12, e12⟩ := Kd.R_slice HM.out.a
           subst e12
           have hw : wrap64 ((l0.length : Int) + (Ad.length : Int)) = (l0.length : Int) + (Ad.length : Int) := by have := HL.out; exact w64 (by omega) (by omega)
           go_wp2_with (first
            | ((with_reducible refine gate_store (t := 3) (p := 107) rfl ?_); refine store_event (t := 3) (p := 107) (v := .tmp 106) (w1 := (wc.setCell ⟨gn, kk, none⟩ (.int .i64 ((l0.length : Int) + (Ad.length : Int))))) ?hg ?ho ?hn ?hr ?_; (case ho => rfl); (case hg => rfl); (case hn => rfl); (case hr => first | (go_simp; done) | (go_simp; rfl)); intro W8 hw8; have HMn := Aside0.mk (show Mg w W8 g6 gn cn A9 A10 c9 c10 (.slice A12 Ad.length c12) T O ((N.set kk cc).set kk ((l0.length : Int) + (Ad.length : Int))) Ad from by rw [hw8]; exact HM.out.nset kk ((l0.length : Int) + (Ad.length : Int))); clear hw8)
            | (at_builtin; refine Kd.R_append (Kd.int .i64) (w0 := w) w.heap.size rfl (.tmp 108) (.tmp 110) 34 3 (.int .i64 0) 8 rfl Try.underlying34 info3 rfl (Nat.lt_succ_self 0) (by omega) (.slice A12 Ad.length c12) Ad (kk : Int) [.int .i64 (kk : Int)] (fun k => k ≠ gn) (fun _ => False) rfl rfl rfl (fun _ hk => hk.elim) ?aF HMn.out.a HMn.out.bel HMn.out.bel.size ?aL ?_; (case aF => intro k_ hk; have := blk_lt HMn.out.ntyped.choose_spec; omega); (case aL => have := HL.out; omega); intro v111 W5 ho5 hb5 hg5 hat5; have HM5 := Aside0.mk (HMn.out.push ho5 hb5 hg5); clear ho5 hb5 hg5 hat5))
           go_roundg dd
           case measure => omega
           case rel =>
            have hset : (N.set kk cc).set kk ((l0.length : Int) + (Ad.length : Int)) = N.set kk ((l0.length : Int) + (Ad.length : Int)) := List.set_set ..
            rw [hset] at HM5
            exact ⟨_, Ad ++ [(kk : Int)], kk + 1, rfl, ⟨by have := HK.out; omega⟩, ⟨by rw [List.length_set]; exact hNl, by have := HL.out; rw [List.length_append]; simp; omega, fun x hx => by
             rcases List.mem_append.1 hx with h1 | h1
             · exact HL.out.2.2 x h1
             · simp at h1; subst h1; exact ⟨by omega, by omega⟩⟩, ⟨by have := HG.out; rwa [mg_k, HE.out, if_pos hc0] at this⟩, HM5⟩
         · have d9 : decide (cc < 0) = false := decide_eq_false hc0
           go_wp2
           go_roundg dd
           case measure => omega
           case rel => exact ⟨N.set kk cc, Ad, kk + 1, rfl, ⟨by have := HK.out; omega⟩, ⟨by rw [List.length_set]; exact hNl, by have := HL.out; omega, HL.out.2.2⟩, ⟨by have := HG.out; rwa [mg_k, HE.out, if_neg (by omega : ¬ cc < 0)] at this⟩, HM⟩
   · rw [if_neg hy] at h
     obtain ⟨rfl, rfl, rfl, rfl⟩ : r1 = [] ∧ r2 = [] ∧ r3 = y1 ∧ r4 = -3 := by simpa [eq_comm] using h
     clear h
     have hb : (!(r3 == 0 && (y2 == 0))) = true := by
      by_cases a : r3 = 0 <;> by_cases b : y2 = 0 <;> simp_all
     clear hy
     go_enter Try.func21, Try.ntmps21
     go_wp2_with (first
     | ((with_reducible refine gate_dst (N := 6) rfl ?_); refine box_event ?hg (N := 6) ?hd (cs := #[.int .i64 0, .int .i64 0]) (t := 25) ?hr ?_; (case hd => rfl); (case hg => rfl); (case hr => first | (go_simp; done) | (go_simp; rfl)); intro g6 hg6 W1 hbx6 hb6; have HB6 := Aside0.mk hb6; have BX6 := Aside0.mk hbx6; have HG6 := Aside0.mk (Nat.le_of_eq hg6.symm); clear hb6 hbx6 hg6)
     | ((with_reducible refine gate_dst (N := 8) rfl ?_); refine box_event ?hg (N := 8) ?hd (cs := #[.int .i64 0, .int .i64 0]) (t := 25) ?hr ?_; (case hd => rfl); (case hg => rfl); (case hr => first | (go_simp; done) | (go_simp; rfl)); intro g7 hg7 W3 hbx7 hb7; have N67 : g6 ≠ g7 := (by have := blk_lt BX5.out; omega); have BX8 := Aside0.mk (blk_below BX5.out hb7); have BY8 := Aside0.mk hbx7; have HB8 := Aside0.mk (below_step HB5.out hb7); have HG7 := Aside0.mk (show w.heap.size ≤ g7 from by have := HB5.out.size; omega); have hz0 := (blk_cell hbx7 0).trans rfl; have hz1 := (blk_cell hbx7 1).trans rfl; have hy0 := blk_frozen hbx7 0; have hy1 := blk_frozen hbx7 1; clear hb7 hbx7 hg7 BX5 HB5)
     | ((with_reducible refine gate_store (t := 25) (p := 8) rfl ?_); refine store_event (t := 25) (p := 8) (v := .tmp 28) (w1 := ((W3.setCell ⟨g7, 0, none⟩ (.int .i64 r3)).setCell ⟨g7, 1, none⟩ (.int .i64 y2))) ?hg ?ho ?hn ?hr ?_; (case ho => rfl); (case hg => rfl); (case hn => rfl); (case hr => first | (go_simp; done) | (go_simp; rfl)); intro W4 hw4; have BX9 := Aside0.mk (show W4.heap[g6]? = some (.cells #[.int .i64 0, .int .i64 0] 25 (0, 0)) from by rw [hw4]; exact blk_far (blk_far BX8.out N67 _) N67 _); have BY9 := Aside0.mk (show W4.heap[g7]? = some (.cells #[.int .i64 r3, .int .i64 y2] 25 (0, 0)) from by rw [hw4]; exact boxed2 BY8.out); have HB9 := Aside0.mk (show Below w.heap.size w W4 from by rw [hw4]; exact below_set (below_set HB8.out HG7.out) HG7.out); clear hw4 hz0 hz1 hy0 hy1 BX8 BY8 HB8; have hq0 := (blk_cell BX9.out 0).trans rfl; have hq1 := (blk_cell BX9.out 1).trans rfl; have hp0 := blk_frozen BX9.out 0; have hp1 := blk_frozen BX9.out 1; have hs0 := (blk_cell BY9.out 0).trans rfl; have hs1 := (blk_cell BY9.out 1).trans rfl)
     | (go_at_call 11; (with_reducible show Calls Try.prog 11 #[.slice A0 l0.length c0] _ _); refine (records_Validate.calls k _ _ l0 0 0 _ (Kd.C_below HR0.out HB6.out) HC0.out HV.out).mono ?_; rintro e W2 ⟨rfl, hb2⟩; have BX7 := Aside0.mk (blk_below BX6.out hb2); have HB2 := Aside0.mk (below_step HB6.out hb2); clear hb2)
     | (go_at_call 11; (with_reducible show Calls Try.prog 11 #[.slice A1 l1.length c1] _ _); refine (records_Validate.calls k _ _ l1 r3 y2 _ (Kd.C_below HR1.out (below_alloc HB2.out _)) HC1.out HU.out).mono ?_; rintro e W5 ⟨rfl, hb2⟩; have BX5 := Aside0.mk (blk_below (blk_alloc BX7.out _) hb2); have HB5 := Aside0.mk (below_step (below_alloc HB2.out _) hb2); clear hb2))
     go_region_held3 (fun w' => w'.cell? ⟨g7, 0, none⟩ = some (.int .i64 r3)) (first | go_keep) (first | fail)
     go_wp2
     refine bodyPost_ret (results_list (rs := [.tmp 4, .tmp 5, .cell 6 25]) rfl (by simp) (.tmp (.tmp (.cell g6 25 #[.int .i64 r3, .int .i64 (-3)] (0, 0) _ rfl (blk_drew (boxed2 BX9.out)) Try.underlying25 rfl (by kernel_rfl) .nil)))) rfl ?_
     exact ⟨_, _, rfl, Kd.R_nil _ _ _ _ _, Kd.R_nil _ _ _ _ _, below_drew1 (below_set (below_set HB9.out HG6.out) HG6.out)⟩
 · rw [if_neg hx] at h
   obtain ⟨rfl, rfl, rfl, rfl⟩ : r1 = [] ∧ r2 = [] ∧ r3 = x1 ∧ r4 = x2 := by simpa [eq_comm] using h
   clear h
   have hb : (!(r3 == 0 && (r4 == 0))) = true := by
    by_cases a : r3 = 0 <;> by_cases b : r4 = 0 <;> simp_all
   clear hx
   go_enter Try.func21, Try.ntmps21
   go_wp2_with (first
   | ((with_reducible refine gate_dst (N := 6) rfl ?_); refine box_event ?hg (N := 6) ?hd (cs := #[.int .i64 0, .int .i64 0]) (t := 25) ?hr ?_; (case hd => rfl); (case hg => rfl); (case hr => first | (go_simp; done) | (go_simp; rfl)); intro g6 hg6 W1 hbx6 hb6; have HB6 := Aside0.mk hb6; have BX6 := Aside0.mk hbx6; have HG6 := Aside0.mk (Nat.le_of_eq hg6.symm); clear hb6 hbx6 hg6)
   | ((with_reducible refine gate_dst (N := 7) rfl ?_); refine box_event ?hg (N := 7) ?hd (cs := #[.int .i64 0, .int .i64 0]) (t := 25) ?hr ?_; (case hd => rfl); (case hg => rfl); (case hr => first | (go_simp; done) | (go_simp; rfl)); intro g7 hg7 W3 hbx7 hb7; have N67 : g6 ≠ g7 := (by have := blk_lt BX7.out; omega); have BX8 := Aside0.mk (blk_below BX7.out hb7); have BY8 := Aside0.mk hbx7; have HB8 := Aside0.mk (below_step HB2.out hb7); have HG7 := Aside0.mk (show w.heap.size ≤ g7 from by have := HB2.out.size; omega); have hz0 := (blk_cell hbx7 0).trans rfl; have hz1 := (blk_cell hbx7 1).trans rfl; have hy0 := blk_frozen hbx7 0; have hy1 := blk_frozen hbx7 1; clear hb7 hbx7 hg7 BX7 HB2)
   | ((with_reducible refine gate_store (t := 25) (p := 7) rfl ?_); refine store_event (t := 25) (p := 7) (v := .tmp 22) (w1 := ((W3.setCell ⟨g7, 0, none⟩ (.int .i64 r3)).setCell ⟨g7, 1, none⟩ (.int .i64 r4))) ?hg ?ho ?hn ?hr ?_; (case ho => rfl); (case hg => rfl); (case hn => rfl); (case hr => first | (go_simp; done) | (go_simp; rfl)); intro W4 hw4; have BX9 := Aside0.mk (show W4.heap[g6]? = some (.cells #[.int .i64 0, .int .i64 0] 25 (0, 0)) from by rw [hw4]; exact blk_far (blk_far BX8.out N67 _) N67 _); have BY9 := Aside0.mk (show W4.heap[g7]? = some (.cells #[.int .i64 r3, .int .i64 r4] 25 (0, 0)) from by rw [hw4]; exact boxed2 BY8.out); have HB9 := Aside0.mk (show Below w.heap.size w W4 from by rw [hw4]; exact below_set (below_set HB8.out HG7.out) HG7.out); clear hw4 hz0 hz1 hy0 hy1 BX8 BY8 HB8; have hq0 := (blk_cell BX9.out 0).trans rfl; have hq1 := (blk_cell BX9.out 1).trans rfl; have hp0 := blk_frozen BX9.out 0; have hp1 := blk_frozen BX9.out 1; have hs0 := (blk_cell BY9.out 0).trans rfl; have hs1 := (blk_cell BY9.out 1).trans rfl)
   | (go_at_call 11; (with_reducible show Calls Try.prog 11 #[.slice A0 l0.length c0] _ _); refine (records_Validate.calls k _ _ l0 r3 r4 _ (Kd.C_below HR0.out HB6.out) HC0.out HV.out).mono ?_; rintro e W2 ⟨rfl, hb2⟩; have BX7 := Aside0.mk (blk_below BX6.out hb2); have HB2 := Aside0.mk (below_step HB6.out hb2); clear hb2))
   go_region_held3 (fun w' => w'.cell? ⟨g7, 0, none⟩ = some (.int .i64 r3) ∧ w'.cell? ⟨g7, 1, none⟩ = some (.int .i64 r4)) (first | go_keep) (first | fail)
   go_wp2
   refine bodyPost_ret (results_list (rs := [.tmp 4, .tmp 5, .cell 6 25]) rfl (by simp) (.tmp (.tmp (.cell g6 25 #[.int .i64 r3, .int .i64 r4] (0, 0) _ rfl (blk_drew (boxed2 BX9.out)) Try.underlying25 rfl (by kernel_rfl) .nil)))) rfl ?_
   exact ⟨_, _, rfl, Kd.R_nil _ _ _ _ _, Kd.R_nil _ _ _ _ _, below_drew1 (below_set (below_set HB9.out HG6.out) HG6.out)⟩
end Go.Proofs.Ytpmlcmdojmdmhaa.PR
