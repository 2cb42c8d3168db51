/- frame.compress at every slice: it returns the list that the function 'frame_compress.f' tells. -/
import Derived.Deep.RegionHeld3
import Derived.Deep.AppendLies
import Derived.Deep.RegionLaw
import Derived.Deep.DeepMust
import Derived.Test.YteljmmdbgnjflaaHFlushed
import Derived.Test.YteljmmdbgnjflaaPFx4
set_option linter.unusedVariables false
set_option linter.unusedSimpArgs false
namespace Go.Proofs.Yteljmmdbgnjflaa.PF
open Go.RowKit Go.Shelf Go.Proofs.YteljmmdbgnjflaaW.PrintWords Go.Proofs.YteljmmdbgnjflaaW.PrintLast Go.Proofs.YteljmmdbgnjflaaW.PrintMore Go.Proofs.Yteljmmdbgnjflaa.H

/-- The output, the literals flushed. -/
def flushed (outs lits : List Int) : List Int := outs ++ runs (pieces lits 128 ((lits.length + 127) / 128))
def frame_compress.l0 : Nat → List Int → List Int → List Int → Int → Option (List Int)
  | 0, _, _, _, _ => none
  | k + 1, x0, lits, outs, at' => if outs.length + 130 * lits.length + 300 < 140737488355328 ∧ 0 ≤ at' ∧ at' ≤ 1099511627776 then
      (if at' < (x0.length : Int) then ((frame_match.f k x0 at').bind fun t => (if t.1 < 4 then (frame_compress.l0 k x0 (lits ++ [rd x0 at']) outs (at' + 1)) else
        (if t.1 ≤ 131 ∧ 0 ≤ t.2 ∧ t.2 ≤ 1048576 then (frame_compress.l0 k x0 [] (flushed outs lits ++ [124 + t.1, t.2 % 256, t.2 / 256 % 256]) (at' + t.1)) else none)))
       else some (flushed outs lits)) else none
def frame_compress.f (k : Nat) (l0 : List Int) : Option (List Int) := frame_compress.l0 k l0 [] [] 0
theorem frame_compress.mono_l : ∀ k, (∀ y0 y1 y2 y3, LeO (frame_compress.l0 k y0 y1 y2 y3) (frame_compress.l0 (k + 1) y0 y1 y2 y3))
  | 0 => fun _ _ _ _ r h => by simp [frame_compress.l0] at h
  | k + 1 => by
    have ih0 := frame_compress.mono_l k
    intro y0 y1 y2 y3
    unfold frame_compress.l0
    repeat' first
      | (with_reducible exact ih0 _ _ _ _)
      | (with_reducible exact frame_match.mono _ _ _)
      | (with_reducible exact LeO.refl _)
      | (with_reducible exact LeO.none _)
      | (with_reducible refine LeO.ite ?_ ?_)
      | (with_reducible refine LeO.bind ?_ (fun _ => ?_))
theorem frame_compress.mono : ∀ a0 k, LeO (frame_compress.f k a0) (frame_compress.f (k + 1) a0) := by
  intro a0 k
  exact frame_compress.mono_l k _ _ _ _

/-- The two boxes and their rows. -/
def CS (w W : World) (lits outs : List Int) : Prop := ∃ vl vo, Boxed W (w.heap.size + 1) 22 vl ∧ Boxed W w.heap.size 22 vo ∧ Own5 W w.heap.size vl lits ∧ Own5 W w.heap.size vo outs ∧
  (∀ k, vl.ownBlock = some k → vo.ownBlock ≠ some k) ∧ Below w.heap.size w W

theorem flushed_le (outs lits : List Int) : (flushed outs lits).length ≤ outs.length + 129 * ((lits.length + 127) / 128) := by
  unfold flushed
  rw [List.length_append]
  have : ∀ k, (runs (pieces lits 128 k)).length ≤ 129 * k := by
    intro k
    induction k with
    | zero => simp [pieces, runs]
    | succ k ih =>
      rw [pieces_succ, runs_snoc, List.length_append, runOf_length]
      have : ((lits.drop (k * 128)).take 128).length ≤ 128 := List.length_take_le _ _
      omega
  have := this ((lits.length + 127) / 128)
  omega
theorem ne_of_hap {vl vo : Value} (hap : ∀ k, vl.ownBlock = some k → vo.ownBlock ≠ some k) : vo.ownBlock = none ∨ vo.ownBlock ≠ vl.ownBlock := by
  cases h : vo.ownBlock with
  | none => exact .inl rfl
  | some k => exact .inr (fun e => hap k e.symm h)

/-- What an append to one of the two rows leaves: P is the box that is stored into, R the other. -/
theorem push_row {w wr w2 : World} {P R : Nat} {vl vo : Value} {xs ys zs : List Int} {o : Obj} {gg q cap : Nat} (hPR : P ≠ R) (hP : w.heap.size ≤ P) (bP : Boxed wr P 22 vl) (bR : Boxed wr R 22 vo) (rl : Own5 wr w.heap.size vl xs) (ro : Own5 wr w.heap.size vo ys)
    (hap : ∀ k, vl.ownBlock = some k → vo.ownBlock ≠ some k) (hB : Below w.heap.size w wr) (G : (wr.alloc o).grownBy w2 vl.ownBlock) (hown : w2.ownsRow w.heap.size 5 1 (.slice (some ⟨gg, 0, none⟩) q cap) q (nums .u8 zs))
    (hq : q = zs.length) (hat : vl.ownBlock = some gg ∨ gg = wr.heap.size + 1) :
    Boxed (w2.setCell ⟨P, 0, none⟩ (.slice (some ⟨gg, 0, none⟩) q cap)) P 22 (.slice (some ⟨gg, 0, none⟩) q cap) ∧ Boxed (w2.setCell ⟨P, 0, none⟩ (.slice (some ⟨gg, 0, none⟩) q cap)) R 22 vo ∧
      Own5 (w2.setCell ⟨P, 0, none⟩ (.slice (some ⟨gg, 0, none⟩) q cap)) w.heap.size (.slice (some ⟨gg, 0, none⟩) q cap) zs ∧ Own5 (w2.setCell ⟨P, 0, none⟩ (.slice (some ⟨gg, 0, none⟩) q cap)) w.heap.size vo ys ∧
      (∀ k, (Value.slice (some ⟨gg, 0, none⟩) q cap).ownBlock = some k → vo.ownBlock ≠ some k) ∧ Below w.heap.size w (w2.setCell ⟨P, 0, none⟩ (.slice (some ⟨gg, 0, none⟩) q cap)) := by
  subst hq
  have bP2 : Boxed w2 P 22 vl := (bP.alloc o).kept G (bP.not_row (by decide) rl)
  have bR2 : Boxed w2 R 22 vo := (bR.alloc o).kept G (bR.not_row (by decide) rl)
  have ro2 : w2.ownsRow w.heap.size 5 1 vo ys.length (nums .u8 ys) := ((ro : wr.ownsRow _ _ _ _ _ _).alloc o).kept G (ne_of_hap hap)
  refine ⟨bP2.set _, bR2.kept (grownBy_setCell' w2 P _) (fun e => hPR (by cases e; rfl)), hown.kept (grownBy_setCell' w2 P _) (.inr (bP2.not_row (by decide) hown).symm), ro2.kept (grownBy_setCell' w2 P _) (.inr (bP2.not_row (by decide) ro2).symm), ?_, ?_⟩
  · intro k e
    have : gg = k := by simpa [Value.ownBlock] using e
    subst this
    rcases hat with h | h
    · exact hap _ h
    · intro e2
      have := own_lt ro _ e2
      omega
  · have hs := hB.size
    refine (hB.trans (((Below.refl _ wr).alloc (by omega) o).grown G (by rw [World.size_alloc]; omega) (fun k e => own_base rl k e))).setCell (p := ⟨P, 0, none⟩) hP _

set_option maxRecDepth 100000 in
set_option maxHeartbeats 4000000 in
theorem frame_compress.calls (k : Nat) (A0 : Option Addr) (c0 : Nat) (l0 : List Int) (r : List Int) (w : World) (hr0 : Kd.C (Kd.int .u8) w A0 l0.length l0) (hc0 : l0.length ≤ c0) (h : frame_compress.f k l0 = some r) :
    Calls Try.prog 19 #[.slice A0 l0.length c0] w fun e w' => ∃ v0_ : Value, e = .returned (v0_) ∧ Kd.R (Kd.int .u8) 5 w' w.heap.size (fun _ => True) v0_ r ∧ Below w.heap.size w w' := by
  have HR0 := Aside0.mk hr0
  have HC0 := Aside0.mk hc0
  have HS0 := Aside0.mk (show l0.length ≤ 9223372036854775807 from hr0.2.1)
  clear hr0 hc0
  have H' := Aside0.mk (show frame_compress.l0 k l0 [] [] 0 = some r from h)
  clear h
  go_enter Try.func19, Try.ntmps19
  go_wp2
  go_loopg [6] k (fun kq v6 w' => ∃ (at' : Int) (lits outs : List Int), v6 = .int .i64 at' ∧ Aside0 (frame_compress.l0 kq l0 lits outs at' = some r) ∧ Aside0 (kq ≤ k) ∧ Aside0 (CS w w' lits outs))
  case atStart =>
    refine ⟨0, [], [], rfl, H', ⟨Nat.le_refl _⟩, ⟨?_⟩⟩
    have b2 := Boxed.new (w.alloc (.cells #[.slice none 0 0] 22)) 22 (.slice none 0 0)
    rw [World.size_alloc] at b2
    exact ⟨_, _, b2, (Boxed.new w _ _).alloc _, Own5.nil _ _, Own5.nil _ _, fun k e => by simp [Value.ownBlock] at e, ((Below.refl _ w).alloc (Nat.le_refl _) _).alloc (by simp) _⟩
  case round =>
    clear H'
    obtain ⟨at', lits, outs, rfl, HA, HK1, HCS⟩ := hrel
    cases gk with
    | zero => exact absurd HA.out (by simp [frame_compress.l0])
    | succ k1 =>
      have H := HA.out
      clear HA
      simp only [frame_compress.l0] at H
      by_cases c1 : outs.length + 130 * lits.length + 300 < 140737488355328 ∧ 0 ≤ at' ∧ at' ≤ 1099511627776
      · rw [if_pos c1] at H
        obtain ⟨c1a, c1b, c1c⟩ := c1
        by_cases c2 : at' < (l0.length : Int)
        · rw [if_pos c2] at H
          obtain ⟨⟨n, d⟩, A7, H2⟩ := Option.bind_eq_some_iff.mp H
          clear H
          have H := H2
          clear H2
          dsimp only at H
          have A7' := Aside0.mk A7
          clear A7
          have HB0 := Aside0.mk (show Below w.heap.size w wr by obtain ⟨_, _, _, _, _, _, _, hB⟩ := HCS.out; exact hB)
          by_cases c3 : n < 4
          · rw [if_pos c3] at H
            have H' := Aside0.mk H
            clear H
            go_wp2_with (go_at_call 25; refine (frame_match.calls k1 _ _ l0 at' n d _ ?side1 HC0.out A7'.out).mono ?_; (case side1 => exact Kd.C_below HR0.out HB0.out); rintro e w1 ⟨rfl, ⟨nd, rfl⟩⟩)
            obtain ⟨vl, vo, bL, bO, rl, ro, hap, hB⟩ := HCS.out
            obtain ⟨i0, hi, hz0, hz1, hz2⟩ := info_parts info_u8
            have q0 : at' < (l0.length : Int) := c2
            obtain ⟨ad, eA, hx⟩ := Kd.at_int (Kd.C_below HR0.out hB) at' c1b c2
            cases eA
            have hcL := bL.cell
            have hfL := bL.frozen
            have hcL2 : (wr.drewN nd).cell? ⟨w.heap.size + 1, 0, none⟩ = some vl := hcL
            have hx2 : (wr.drewN nd).cell? (ad.add at'.toNat) = some (.int .u8 (rd l0 at')) := hx
            have nL : vl.ownBlock ≠ some (w.heap.size + 1) := fun e => bL.not_row (by decide) rl e.symm
            have ltL := bL.lt
            have ltA : ad.block < w.heap.size := by
              obtain ⟨ad', e', hcA⟩ := Kd.at_int HR0.out at' c1b c2
              cases e'
              have := World.block_lt_of_cell? w _ hcA
              rwa [add_block] at this
            have nA : vl.ownBlock ≠ some ad.block := fun e => by have := own_base rl _ e; omega
            have HRL := Aside0.mk rl
            have HBL := Aside0.mk bL
            have HBB := Aside0.mk hB
            have hcA : ∀ (o : Obj) (m : Nat), ((wr.drewN m).alloc o).cell? ⟨w.heap.size + 1, 0, none⟩ = some vl := fun o m => pw_cell_below (w := wr.drewN m) (below_alloc (Below.refl _ _) _) hcL
            go_region_law
              ((refine step_append_lies _ (by rfl) _ _ _ (by rfl) w.heap.size 5 i0 _ 1 1 Try.underlying22 hi hz0 hz1 hz2 rfl (by omega) vl lits.length (nums .u8 lits) (by rfl) (HRL.out.alloc _)
                  ⟨wr.heap.size, 0, none⟩ 1 1 [.int .u8 (rd l0 at')] (by rfl) (by rfl) (World.news_of_block (cs := #[.int .u8 (rd l0 at')]) (t := 5) (fr := (0, 0)) (heap_alloc_new wr _)) (by simp [Value.oneCell'])
                  (by omega) (by unfold maxLen; omega) (by omega) (by simp; have := HBB.out.size; omega) (wr.heap.size + 1) (by simp) ?_; intro gg cap w2 hown1 hgrow hat hlt; have hgr : (wr.alloc (.cells #[.int .u8 (rd l0 at')] 5)).grownBy w2 vl.ownBlock := ⟨hgrow.os, hgrow.tape, hgrow.output, hgrow.size, hgrow.block⟩; have bL2 : Boxed w2 (w.heap.size + 1) 22 vl := (HBL.out.alloc (.cells #[.int .u8 (rd l0 at')] 5)).kept hgr (Ne.symm nL); have hcL3 := bL2.cell; have hfL3 := bL2.frozen; have HBL2 := Aside0.mk bL2; clear bL2; have hx3 : w2.cell? (ad.add at'.toNat) = some (.int .u8 (rd l0 at')) := hgr.cell (pw_cell_below (below_alloc (Below.refl _ _) _) hx) (by rw [add_block]; exact Ne.symm nA); have HGR := Aside0.mk hgr; clear hgr; have HHAT := Aside0.mk hat; clear hat))
            all_goals
              go_wp2
              go_roundg k1
              case measure => have := HK1.out; omega
              case rel =>
                refine ⟨at' + 1, lits ++ [rd l0 at'], outs, by first | rfl | simp, H', ⟨by have := HK1.out; omega⟩, ⟨?_⟩⟩
                have hown1' : w2.ownsRow w.heap.size 5 1 (.slice (some ⟨gg, 0, none⟩) (lits.length + 1) cap) (lits.length + 1) (nums .u8 (lits ++ [rd l0 at'])) := by simpa [nums] using hown1
                obtain ⟨r1, r2, r3, r4, r5, r6⟩ := push_row (by omega) (by omega) HBL.out bO HRL.out ro hap HBB.out HGR.out hown1' (by simp) HHAT.out
                exact ⟨_, vo, r1, r2, r3, r4, r5, r6⟩
          · rw [if_neg c3] at H
            by_cases c4 : n ≤ 131 ∧ 0 ≤ d ∧ d ≤ 1048576
            · rw [if_pos c4] at H
              obtain ⟨c4a, c4b, c4c⟩ := c4
              have H' := Aside0.mk H
              clear H
              obtain ⟨i0, hi, hz0, hz1, hz2⟩ := info_parts info_u8
              have hfl := flushed_le outs lits
              obtain ⟨vl, vo, bL, bO, rl, ro, hap, hB⟩ := HCS.out
              have hF := fun nd : Nat => flush_calls w (wr.drewN nd) (w.heap.size + 1) w.heap.size vl vo lits outs w.heap.size hB.size (Nat.le_refl _) (by omega) (by omega) (Nat.le_refl _) bL bO rl ro hap ⟨hB.os, hB.tape, hB.output, hB.size, hB.block⟩ (by omega)
              have HF := Aside0.mk hF
              clear hF
              go_wp2_with (first
                | (go_at_call 25; refine (frame_match.calls k1 _ _ l0 at' n d _ ?side1 HC0.out A7'.out).mono ?_; (case side1 => exact Kd.C_below HR0.out HB0.out); rintro e w1 ⟨rfl, ⟨nd, rfl⟩⟩)
                | (go_at_call 24; refine (HF.out _).mono ?_; rintro e w2 ⟨rfl, bL2, ⟨vo2, kk, bO2, hk1, hk2, ro2⟩, hB2⟩; go_must (have ekk : kk = (lits.length + 127) / 128 := by omega); go_must (subst ekk); have hcO2 := bO2.cell; have hfO2 := bO2.frozen; go_must (clear hk1 hk2))
                | (at_builtin; go_must (refine wpList_append_lies _ rfl (.tmp 33) (.tmp 43) 22 rfl w.heap.size 5 i0 _ 1 1 Try.underlying22 hi hz0 hz1 hz2 rfl (by omega) vo2 (flushed outs lits).length (nums .u8 (flushed outs lits)) rfl (World.ownsRow.alloc ro2 _) ⟨w2.heap.size, 0, none⟩ 3 3 [.int .u8 (128 + n - 4), .int .u8 (d % 256), .int .u8 (d / 256 % 256)] rfl rfl (World.news_of_block (cs := #[.int .u8 (128 + n - 4), .int .u8 (d % 256), .int .u8 (d / 256 % 256)]) (t := 5) (fr := (0, 0)) (heap_alloc_new w2 _)) (by simp [Value.oneCell']) (by omega) ?hmx ?hby ?hbs (w2.heap.size + 1) (by simp) ?_); go_must (case hmx => unfold maxLen; omega); go_must (case hby => omega); go_must (case hbs => have := hB2.size; simp; omega); go_must (intro gg cap w3 hown1 hgrow hat hlt; have bO3 : Boxed w3 w.heap.size 22 vo2 := (bO2.alloc _).kept hgrow (bO2.not_row (by decide) ro2); have hcO3 := bO3.cell; have hfO3 := bO3.frozen; have HHAT := Aside0.mk hat; clear hat)))
              go_roundg k1
              case measure => have := HK1.out; omega
              case rel =>
                refine ⟨at' + n, [], flushed outs lits ++ [124 + n, d % 256, d / 256 % 256], by first | rfl | simp, H', ⟨by have := HK1.out; omega⟩, ⟨?_⟩⟩
                have hown1' : w3.ownsRow w.heap.size 5 1 (.slice (some ⟨gg, 0, none⟩) ((flushed outs lits).length + 3) cap) ((flushed outs lits).length + 3) (nums .u8 (flushed outs lits ++ [124 + n, d % 256, d / 256 % 256])) := by
                  have e1 : 128 + n - 4 = 124 + n := by omega
                  simpa [nums, e1] using hown1
                obtain ⟨r1, r2, r3, r4, r5, r6⟩ := push_row (vo := .slice none 0 0) (ys := []) (by omega) (Nat.le_refl _) bO2 bL2 ro2 (Own5.nil _ _) (fun k _ e => by simp [Value.ownBlock] at e) hB2 hgrow hown1' (by simp) HHAT.out
                exact ⟨_, _, r2, r1, r4, r3, (fun k e => by simp [Value.ownBlock] at e), r6⟩
            · rw [if_neg c4] at H
              exact absurd H (by simp)
        · rw [if_neg c2] at H
          have er : flushed outs lits = r := by simpa using H
          have HER := Aside0.mk er
          clear H er
          have c2b : decide (at' < (l0.length : Int)) = false := decide_eq_false c2
          obtain ⟨vl, vo, bL, bO, rl, ro, hap, hB⟩ := HCS.out
          have hF := flush_calls w wr (w.heap.size + 1) w.heap.size vl vo lits outs w.heap.size hB.size (Nat.le_refl _) (by omega) (by omega) (Nat.le_refl _) bL bO rl ro hap hB (by omega)
          have HF := Aside0.mk hF
          clear hF
          go_wp2_with (go_at_call 24; refine HF.out.mono ?_; rintro e w2 ⟨rfl, bL2, ⟨vo2, kk, bO2, hk1, hk2, ro2⟩, hB2⟩; have hcO2 := bO2.cell; have HRO := Aside0.mk ro2; have HKK := Aside0.mk (show kk = (lits.length + 127) / 128 by omega); clear hk1 hk2 ro2)
          go_ret
          refine ⟨_, rfl, ?_, hB2⟩
          have h1 := HRO.out
          rw [HKK.out] at h1
          rw [← HER.out]
          exact Own5.toR h1 _ (fun _ => trivial)
      · rw [if_neg c1] at H
        exact absurd H (by simp)
#print axioms frame_compress.calls
end Go.Proofs.Yteljmmdbgnjflaa.PF
