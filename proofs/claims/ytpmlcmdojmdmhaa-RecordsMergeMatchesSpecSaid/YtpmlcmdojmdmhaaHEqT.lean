/- The reference's EqualTypes at a list of types that lies in memory twice: true. -/
import Derived.Test.YtpmlcmdojmdmhaaHSF
import Derived.Test.YtpmlcmdojmdmhaaPRxS
import Derived.Deep.RegionHeld3
set_option linter.unusedVariables false
set_option linter.unusedSimpArgs false
set_option maxRecDepth 100000
namespace Go.Proofs.Ytpmlcmdojmdmhaa.PR
open Go.RowKit Go.Proofs.YtpmlcmdojmdmhaaW.PrintWords Go.Proofs.YtpmlcmdojmdmhaaW.PrintLast Go.Proofs.YtpmlcmdojmdmhaaW.PrintMore
theorem alike_refl (x : S32) : Alike x x := ⟨rfl, rfl, rfl, rfl, rfl, fun _ _ => ⟨rfl, rfl⟩⟩
theorem ints_l0 (l : List Int) (hl : l.length ≤ 1000) : ∀ d i : Nat, i + d = l.length → linkhouseref1_Ints.l0 (d + 1) l l (i : Int) = some true
  | 0, i, h => by rw [linkhouseref1_Ints.l0, if_neg (by omega)]
  | d + 1, i, h => by
    rw [linkhouseref1_Ints.l0, if_pos (by omega), if_pos (by omega), if_pos (by omega), if_pos rfl, w64 (by omega) (by omega)]
    exact ints_l0 l hl d (i + 1) (by omega)
theorem ints_same (l : List Int) (hl : l.length ≤ 1000) : linkhouseref1_Ints.f (l.length + 1) l l = some true := by
  unfold linkhouseref1_Ints.f
  rw [if_pos rfl]
  exact ints_l0 l hl l.length 0 (by omega)
theorem stp_len (x : S32) (h : x.f5.length ≤ 8) : (stp x).length ≤ 8 := by
  unfold stp
  split
  · simp
  · rw [List.length_map]; exact h
set_option maxHeartbeats 2000000 in
theorem equalTypes_calls (w : World) (A : Option Addr) (c : Nat) (l : List S32) (hC : Kd.C k32 w A l.length l) (hc : l.length ≤ c) (B : Option Addr) (d : Nat) (hD : Kd.C k32 w B l.length l) (hd : l.length ≤ d) (h8 : ∀ t ∈ l, t.f5.length ≤ 8) :
    Calls Try.prog 23 #[.slice A l.length c, .slice B l.length d] w fun e w' => e = .returned (.bool true) ∧ Below w.heap.size w w' := by
  have hu32 := Try.underlying32
  have HRA := Aside0.mk hC
  have HRB := Aside0.mk hD
  have HL := Aside0.mk (show l.length ≤ 9223372036854775807 from hC.2.1)
  have H8 := Aside0.mk h8
  clear hC hc hD hd h8
  go_enter Try.func23, Try.ntmps23
  go_wp2
  go_loopg [5] l.length (fun kq v5 w' => ∃ q : Nat, v5 = .int .i64 (q : Int) ∧ Aside0 (q + kq = l.length) ∧ Aside0 (Below w.heap.size w w'))
  case atStart => exact ⟨0, rfl, ⟨by omega⟩, ⟨Below.refl _ _⟩⟩
  case round =>
    obtain ⟨q, rfl, HQ, HB⟩ := hrel
    cases gk with
    | zero =>
      obtain rfl : q = l.length := by have := HQ.out; omega
      have d1 : decide ((l.length : Int) < (l.length : Int)) = false := decide_eq_false (by omega)
      go_wp2
      go_ret
      exact ⟨rfl, HB.out⟩
    | succ dd =>
      have hlq : q < l.length := by have := HQ.out; omega
      obtain ⟨ad, A5, c5, eA, x0, x1, x2, x3, x4, x5, hlx, hix⟩ := at_T32 HRA.out (q : Int) (by omega) (by omega)
      subst eA
      obtain ⟨bd, B5, d5, eB, y0, y1, y2, y3, y4, y5, hly, hiy⟩ := at_T32 HRB.out (q : Int) (by omega) (by omega)
      subst eB
      have hx8 : (rd_T32 l (q : Int)).f5.length ≤ 8 := H8.out _ (by rw [rd_T32_nat, List.getD_eq_getElem?_getD, List.getElem?_eq_getElem hlq]; exact List.getElem_mem hlq)
      obtain ⟨x, hx⟩ : ∃ x, rd_T32 l (q : Int) = x := ⟨_, rfl⟩
      rw [hx] at x0 x1 x2 x3 x4 x5 y0 y1 y2 y3 y4 y5 hix hiy hx8
      simp only [Int.toNat_natCast] at x0 x1 x2 x3 x4 x5 y0 y1 y2 y3 y4 y5
      have HCE := Aside0.mk (And.intro x0 (And.intro x1 (And.intro x2 (And.intro x3 (And.intro x4 (And.intro x5 (And.intro y0 (And.intro y1 (And.intro y2 (And.intro y3 (And.intro y4 y5)))))))))))
      have HXC := Aside0.mk hix
      have HYC := Aside0.mk hiy
      have HL8 := Aside0.mk hx8
      obtain ⟨kI, hkI⟩ : ∃ k, linkhouseref1_Ints.f k (stp x) (stp x) = some true := ⟨_, ints_same _ (by have := stp_len x hx8; omega)⟩
      have HKI := Aside0.mk hkI
      replace x0 := (HB.out.cell (World.block_lt_of_cell? w _ x0)).trans x0; replace y0 := (HB.out.cell (World.block_lt_of_cell? w _ y0)).trans y0
      replace x1 := (HB.out.cell (World.block_lt_of_cell? w _ x1)).trans x1; replace y1 := (HB.out.cell (World.block_lt_of_cell? w _ y1)).trans y1
      replace x2 := (HB.out.cell (World.block_lt_of_cell? w _ x2)).trans x2; replace y2 := (HB.out.cell (World.block_lt_of_cell? w _ y2)).trans y2
      replace x3 := (HB.out.cell (World.block_lt_of_cell? w _ x3)).trans x3; replace y3 := (HB.out.cell (World.block_lt_of_cell? w _ y3)).trans y3
      replace x4 := (HB.out.cell (World.block_lt_of_cell? w _ x4)).trans x4; replace y4 := (HB.out.cell (World.block_lt_of_cell? w _ y4)).trans y4
      replace x5 := (HB.out.cell (World.block_lt_of_cell? w _ x5)).trans x5; replace y5 := (HB.out.cell (World.block_lt_of_cell? w _ y5)).trans y5
      have d1 : decide ((q : Int) < (l.length : Int)) = true := decide_eq_true (by omega)
      have d2 : decide ((0 : Int) ≤ (q : Int)) = true := decide_eq_true (by omega)
      have d3 : ((0 : Int) ≤ (q : Int)) = True := eq_true (by omega)
      have d4 : ((q : Int) < (l.length : Int)) = True := eq_true (by omega)
      have HWR := Aside0.mk (show wrap64 ((q : Int) + 1) = ((q + 1 : Nat) : Int) from by have := HL.out; rw [w64 (by omega) (by omega)]; rfl)
      clear hlq hlx hix hly hiy hx8 hx hkI
      go_wp2
      go_region_held3 (fun w' => w'.cell? (ad.add (q * 6)) = some (.int .i64 x.f0) ∧ w'.cell? ⟨(ad.add (q * 6)).block, (ad.add (q * 6)).off + 1, none⟩ = some (.string x.f1) ∧ w'.cell? ⟨(ad.add (q * 6)).block, (ad.add (q * 6)).off + 2, none⟩ = some (.int .i64 x.f2) ∧ w'.cell? ⟨(ad.add (q * 6)).block, (ad.add (q * 6)).off + 3, none⟩ = some (.int .i64 x.f3) ∧ w'.cell? ⟨(ad.add (q * 6)).block, (ad.add (q * 6)).off + 4, none⟩ = some (.int .i64 x.f4) ∧ w'.cell? ⟨(ad.add (q * 6)).block, (ad.add (q * 6)).off + 5, none⟩ = some (.slice A5 x.f5.length c5) ∧ w'.cell? (bd.add (q * 6)) = some (.int .i64 x.f0) ∧ w'.cell? ⟨(bd.add (q * 6)).block, (bd.add (q * 6)).off + 1, none⟩ = some (.string x.f1) ∧ w'.cell? ⟨(bd.add (q * 6)).block, (bd.add (q * 6)).off + 2, none⟩ = some (.int .i64 x.f2) ∧ w'.cell? ⟨(bd.add (q * 6)).block, (bd.add (q * 6)).off + 3, none⟩ = some (.int .i64 x.f3) ∧ w'.cell? ⟨(bd.add (q * 6)).block, (bd.add (q * 6)).off + 4, none⟩ = some (.int .i64 x.f4) ∧ w'.cell? ⟨(bd.add (q * 6)).block, (bd.add (q * 6)).off + 5, none⟩ = some (.slice B5 x.f5.length d5)) (first | exact ⟨(HB9.out.cell (World.block_lt_of_cell? w _ (HCE.out.1))).trans (HCE.out.1), (HB9.out.cell (World.block_lt_of_cell? w _ (HCE.out.2.1))).trans (HCE.out.2.1), (HB9.out.cell (World.block_lt_of_cell? w _ (HCE.out.2.2.1))).trans (HCE.out.2.2.1), (HB9.out.cell (World.block_lt_of_cell? w _ (HCE.out.2.2.2.1))).trans (HCE.out.2.2.2.1), (HB9.out.cell (World.block_lt_of_cell? w _ (HCE.out.2.2.2.2.1))).trans (HCE.out.2.2.2.2.1), (HB9.out.cell (World.block_lt_of_cell? w _ (HCE.out.2.2.2.2.2.1))).trans (HCE.out.2.2.2.2.2.1), (HB9.out.cell (World.block_lt_of_cell? w _ (HCE.out.2.2.2.2.2.2.1))).trans (HCE.out.2.2.2.2.2.2.1), (HB9.out.cell (World.block_lt_of_cell? w _ (HCE.out.2.2.2.2.2.2.2.1))).trans (HCE.out.2.2.2.2.2.2.2.1), (HB9.out.cell (World.block_lt_of_cell? w _ (HCE.out.2.2.2.2.2.2.2.2.1))).trans (HCE.out.2.2.2.2.2.2.2.2.1), (HB9.out.cell (World.block_lt_of_cell? w _ (HCE.out.2.2.2.2.2.2.2.2.2.1))).trans (HCE.out.2.2.2.2.2.2.2.2.2.1), (HB9.out.cell (World.block_lt_of_cell? w _ (HCE.out.2.2.2.2.2.2.2.2.2.2.1))).trans (HCE.out.2.2.2.2.2.2.2.2.2.2.1), (HB9.out.cell (World.block_lt_of_cell? w _ (HCE.out.2.2.2.2.2.2.2.2.2.2.2))).trans (HCE.out.2.2.2.2.2.2.2.2.2.2.2)⟩ | go_keep) (first
              | (go_at_call 30; refine (sameFields_calls x x A5 c5 B5 d5 true _ (Kd.C_below HXC.out (by first | exact HB9.out | exact below_drew1 HB.out | exact pw_below_drewN HB9.out _)) (Kd.C_below HYC.out (by first | exact HB9.out | exact below_drew1 HB.out | exact pw_below_drewN HB9.out _)) ⟨fun _ => alike_refl x, fun _ => rfl⟩).mono ?_; rintro e W2 ⟨rfl, hb⟩; have n_ := Aside0.mk (below_step (by first | exact HB9.out | exact below_drew1 HB.out | exact pw_below_drewN HB9.out _) hb); (try clear HB9); have HB9 := n_; clear n_; clear hb)
              | (go_at_call 31; (with_reducible show Calls Try.prog 31 #[.agg #[.int .i64 x.f0, .string x.f1, .int .i64 x.f2, .int .i64 x.f3, .int .i64 x.f4, .slice A5 x.f5.length c5]] _ _); refine (steps_calls x A5 c5 _ (Kd.C_below HXC.out (by first | exact HB9.out | exact below_drew1 HB.out | exact pw_below_drewN HB9.out _)) HL8.out).mono ?_; rintro e W2 ⟨v, rfl, hr, hb⟩; obtain ⟨AP1, cP1, rfl, hl, hC⟩ := Kd.R_reads hr; have HP1 := Aside0.mk hC; have HL1 := Aside0.mk hl; have n_ := Aside0.mk (below_step (by first | exact HB9.out | exact below_drew1 HB.out | exact pw_below_drewN HB9.out _) hb); (try clear HB9); have HB9 := n_; clear n_; clear hb hr hC hl)
              | (go_at_call 31; (with_reducible show Calls Try.prog 31 #[.agg #[.int .i64 x.f0, .string x.f1, .int .i64 x.f2, .int .i64 x.f3, .int .i64 x.f4, .slice B5 x.f5.length d5]] _ _); refine (steps_calls x B5 d5 _ (Kd.C_below HYC.out (by first | exact HB9.out | exact below_drew1 HB.out | exact pw_below_drewN HB9.out _)) HL8.out).mono ?_; rintro e W2 ⟨v, rfl, hr, hb⟩; obtain ⟨AP2, cP2, rfl, hl, hC⟩ := Kd.R_reads hr; have HP2 := Aside0.mk hC; have HL2 := Aside0.mk hl; have n_ := Aside0.mk (below_step (by first | exact HB9.out | exact below_drew1 HB.out | exact pw_below_drewN HB9.out _) hb); (try clear HB9); have HB9 := n_; clear n_; have n2_ := Aside0.mk (Kd.C_below HP1.out hb); clear HP1; have HP1 := n2_; clear n2_; clear hb hr hC hl)
              | (go_at_call 24; refine (linkhouseref1_Ints.calls kI _ _ (stp x) _ _ (stp x) true _ HP1.out HL1.out HP2.out HL2.out HKI.out).mono ?_; rintro e W2 ⟨rfl, ⟨nd, rfl⟩⟩; have n_ := Aside0.mk (pw_below_drewN HB9.out nd); clear HB9; have HB9 := n_; clear n_))
      go_wp2
      go_roundg dd
      case measure => omega
      case rel => exact ⟨q + 1, by rw [HWR.out], ⟨by have := HQ.out; omega⟩, HB9⟩
end Go.Proofs.Ytpmlcmdojmdmhaa.PR
