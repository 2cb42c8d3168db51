/- slices.Repeat at []bool, of one element that is true: as many of them as are asked for. -/
import Derived.Test.YtpmlcmdojmdmhaaPRxS
import Derived.Laws.IdiomCopy
set_option linter.unusedVariables false
set_option linter.unusedSimpArgs false
set_option maxRecDepth 100000
namespace Go.Proofs.Ytpmlcmdojmdmhaa.PR
open Go.RowKit Go.Proofs.YtpmlcmdojmdmhaaW.PrintWords Go.Proofs.YtpmlcmdojmdmhaaW.PrintLast Go.Proofs.YtpmlcmdojmdmhaaW.PrintMore
theorem u64_wrap {n : Int} (h0 : 0 ≤ n) (h1 : n < 18446744073709551616) : IntKind.u64.wrap n = n := by
  simp [IntKind.wrap, IntKind.bits, IntKind.signed]
  omega
theorem u64_mask {n : Int} (h0 : 0 ≤ n) (h1 : n < 4294967296) : Go.bits .and .u64 n 4294967295 = n := by
  have h := bits_mask .u64 63 (by decide) (fun n a b => u64_wrap a (by omega)) 32 (by decide) n h0 (by omega)
  have e : ((2 : Int) ^ 32 - 1) = 4294967295 := by decide
  rw [e] at h
  rw [h]
  omega
theorem mul_one_f (n : Int) (h0 : 0 ≤ n) (h1 : n ≤ 1000000) : bits_Mul.f 1 n = some (0, n) := by
  unfold bits_Mul.f bits_Mul64.f
  rw [u64_mask (n := n) (by omega) (by omega), u64_mask (n := 1) (by omega) (by omega)]
  simp only [Option.bind_some]
  have e1 : (1 : Int) / 4294967296 = 0 := by decide
  have e2 : n / 4294967296 = 0 := by omega
  simp only [e1, e2, Int.zero_mul, Int.mul_zero, Int.one_mul, u64_wrap (n := 0) (by omega) (by omega), u64_wrap (n := n) (by omega) (by omega), Int.zero_add, Int.add_zero]
  have e3 : (0 : Int) / 4294967296 = 0 := by decide
  rw [u64_mask (n := 0) (by omega) (by omega)]
  simp only [e3, u64_wrap (n := 0) (by omega) (by omega), Int.add_zero]

theorem info4 : (Try.prog.info? 4).map (fun i => (i.zero, i.size, i.bytes)) = some (some (.bool false), 1, 1) := by kernel_rfl
/-- Cells of a row of bools are written, one after the other. -/
theorem R_setBools {base : Nat} {ok : Nat → Prop} {g n cap : Nat} : ∀ (ys : List Bool) (o : Nat) (W : World) (xs : List Bool), Kd.bool.R 4 W base ok (.slice (some ⟨g, 0, none⟩) n cap) xs → o + ys.length ≤ n →
    Kd.bool.R 4 (W.setCells g o (ys.map Value.bool)) base ok (.slice (some ⟨g, 0, none⟩) n cap) (xs.take o ++ ys ++ xs.drop (o + ys.length)) ∧ W.grownBy (W.setCells g o (ys.map Value.bool)) (some g)
  | [], o, W, xs, h, _ => ⟨by simpa [World.setCells] using h, by simpa [World.setCells] using ⟨rfl, rfl, rfl, Nat.le_refl _, fun _ _ _ => rfl⟩⟩
  | y :: ys, o, W, xs, h, ho => by
    have hn := (Kd.R_reads' h).1
    simp only [List.length_cons] at ho
    obtain ⟨ad, eA, hc⟩ := Kd.at_bool (Kd.R_reads' h).2.2 (o : Int) (by omega) (by omega)
    cases eA
    rw [add_plain] at hc
    obtain ⟨h1, h2⟩ := Kd.R_seg h (o : Int) (by omega) (by omega) (c := [.bool (rdOf false xs o)]) (seg := [.bool y]) (j := 0) (x' := y) (okp := fun _ => False) rfl
      (fun j u hu => by
        cases j with
        | zero =>
          simp at hu
          subst hu
          rw [show (o : Int).toNat * Kd.bool.sz + 0 = o from by show (o : Int).toNat * 1 + 0 = o; omega]
          exact hc
        | succ j => simp at hu) (Nat.le_refl 1) rfl (fun _ hk => hk.elim)
    have e0 : ((o : Int).toNat * Kd.bool.sz + 0) = o := by show (o : Int).toNat * 1 + 0 = o; omega
    have e1 : (o : Int).toNat = o := by omega
    rw [e0] at h1 h2
    rw [e1] at h1
    obtain ⟨h3, h4⟩ := R_setBools ys (o + 1) _ _ h1 (by omega)
    refine ⟨?_, h2.trans h4⟩
    have e2 : (xs.set o y).take (o + 1) ++ ys ++ (xs.set o y).drop (o + 1 + ys.length) = xs.take o ++ (y :: ys) ++ xs.drop (o + (y :: ys).length) := by
      rw [List.set_eq_take_append_cons_drop, if_pos (by omega)]
      have ht : (xs.take o).length = o := by rw [List.length_take]; omega
      rw [List.take_append, List.drop_append, ht]
      simp [Nat.add_sub_cancel_left, show o + 1 + ys.length - o = ys.length + 1 by omega, List.take_of_length_le (show (xs.take o).length ≤ o + 1 by omega), List.drop_eq_nil_of_le (show (xs.take o).length ≤ o + 1 + ys.length by omega)]
      congr 1
      omega
    rw [e2] at h3
    exact h3
theorem own_form {W : World} {base : Nat} {ok : Nat → Prop} {v : Value} {xs : List Bool} {m : Nat} (h : Kd.bool.R 4 W base ok v xs) (hb : ∃ b, v.ownBlock = some b ∧ m ≤ b) : ∃ g cap, v = .slice (some ⟨g, 0, none⟩) xs.length cap ∧ xs.length ≤ cap := by
  obtain ⟨A, c, rfl, hl, _⟩ := Kd.R_reads h
  cases A with
  | none => obtain ⟨b, hb, _⟩ := hb; simp [Value.ownBlock] at hb
  | some ad =>
    obtain ⟨g, rfl⟩ := Kd.R_head h
    exact ⟨g, c, rfl, hl⟩
theorem copy_bools {W : World} {base : Nat} {ok : Nat → Prop} {g n cap : Nat} {xs : List Bool} (h : Kd.bool.R 4 W base ok (.slice (some ⟨g, 0, none⟩) n cap) xs) (o dCap : Nat) (src : Addr) (sLen sCap : Nat) (ys : List Bool)
    (ho : o + ys.length ≤ n) (hy : ∀ j v, (ys.map Value.bool)[j]? = some v → W.cell? (src.add j) = some v) (hmin : ys.length = Nat.min sLen (n - o)) (ty : TypeId) :
    (Builtin.copy_ #[56, 56] ty #[.slice (some ⟨g, o, none⟩) (n - o) dCap, .slice (some src) sLen sCap]).run Try.prog W = .ok (goInt ys.length) (W.setCells g o (ys.map Value.bool)) := by
  obtain ⟨cells, hb⟩ := Kd.R_typed h g (by simp [Value.ownBlock])
  have hn := (Kd.R_reads' h).1
  have hr := run_copy_cells (P := Try.prog) W 56 56 ty 4 g o (n - o) dCap src sLen sCap (ys.map Value.bool) Try.underlying56 (by kernel_rfl) (by rw [List.length_map]; exact hmin) hy
    (fun j hj => by
      rw [List.length_map] at hj
      obtain ⟨ad, eA, hc⟩ := Kd.at_bool (Kd.R_reads' h).2.2 ((o + j : Nat) : Int) (by omega) (by omega)
      cases eA
      rw [add_plain, show ((o + j : Nat) : Int).toNat = o + j by omega] at hc
      rw [hc]
      rfl)
    (fun j hj => blk_frozen hb _) (fun v hv => by
      obtain ⟨y, _, rfl⟩ := List.mem_map.1 hv
      rfl)
  rw [List.length_map] at hr
  exact hr
/-- A copy from the head of a row that is true up to m, behind them. -/
theorem copy_trues {w W : World} {ok : Nat → Prop} {g n cap : Nat} (m j : Nat) (hm : m + j ≤ n) (h : Kd.bool.R 4 W w.heap.size ok (.slice (some ⟨g, 0, none⟩) n cap) (List.replicate m true ++ List.replicate (n - m) false)) (hB : Below w.heap.size w W)
    (dCap : Nat) (src : Addr) (sLen sCap : Nat) (hs : ∀ i, i < j → W.cell? (src.add i) = some (.bool true)) (hmin : j = Nat.min sLen (n - m)) :
    ∃ W', (∀ ty, (Builtin.copy_ #[56, 56] ty #[.slice (some ⟨g, m, none⟩) (n - m) dCap, .slice (some src) sLen sCap]).run Try.prog W = .ok (.int .i64 (j : Int)) W') ∧
      Kd.bool.R 4 W' w.heap.size ok (.slice (some ⟨g, 0, none⟩) n cap) (List.replicate (m + j) true ++ List.replicate (n - (m + j)) false) ∧ Below w.heap.size w W' := by
  have hl : (List.replicate j true).length = j := List.length_replicate
  obtain ⟨h1, h2⟩ := R_setBools (List.replicate j true) m W _ h (by rw [hl]; exact hm)
  refine ⟨W.setCells g m ((List.replicate j true).map Value.bool), fun ty => ?_, ?_, ?_⟩
  · have := copy_bools h m dCap src sLen sCap (List.replicate j true) (by rw [hl]; exact hm) (fun i v hi => by
      rw [List.map_replicate, List.getElem?_replicate] at hi
      split at hi
      · cases hi; exact hs i (by assumption)
      · cases hi) (by rw [hl]; exact hmin) ty
    rw [hl] at this
    exact this
  · have e : (List.replicate m true ++ List.replicate (n - m) false).take m ++ List.replicate j true ++ (List.replicate m true ++ List.replicate (n - m) false).drop (m + (List.replicate j true).length) = List.replicate (m + j) true ++ List.replicate (n - (m + j)) false := by
      rw [hl, List.take_left' (List.length_replicate), List.drop_append, List.length_replicate, List.drop_eq_nil_of_le (by rw [List.length_replicate]; omega), List.replicate_append_replicate, List.nil_append, List.drop_replicate]
      congr 2
      omega
    rw [e] at h1
    exact h1
  · exact pw_below_grown hB (some g) hB.size h2 (fun k hk => Kd.R_base h k (by rw [← hk]; rfl))
set_option maxHeartbeats 4000000 in
theorem repeat_calls (w : World) (g0 n : Nat) (hn : n ≤ 1000000) (hx : w.cell? ⟨g0, 0, none⟩ = some (.bool true)) :
    Calls Try.prog 36 #[.slice (some ⟨g0, 0, none⟩) 1 1, .int .i64 (n : Int)] w fun e w' => ∃ v, e = .returned v ∧ Kd.bool.R 4 w' w.heap.size (fun _ => True) v (List.replicate n true) ∧ (∃ k, v.ownBlock = some k) ∧ Below w.heap.size w w' := by
  have HX := Aside0.mk hx
  clear hx
  have HN := Aside0.mk hn
  have w1 : IntKind.u64.wrap (n : Int) = (n : Int) := u64_wrap (by omega) (by omega)
  have w2 : wrap64 (n : Int) = (n : Int) := by unfold wrap64; omega
  have d1 : decide ((n : Int) < 0) = false := by simp
  have d2 : decide ((9223372036854775807 : Int) < (n : Int)) = false := by simp; omega
  go_enter Try.func36, Try.ntmps36
  go_wp2_with (first
    | (go_at_call 45; refine (bits_Mul.calls 1 (n : Int) 0 (n : Int) _ (mul_one_f _ (by omega) (by omega))).mono ?_; rintro e w' ⟨rfl, ⟨nd, rfl⟩⟩)
    | ((with_reducible refine gate_dst (N := 30) rfl ?_); refine Kd.R_make Kd.bool (w0 := w) w.heap.size 4 rfl (N := 30) rfl 56 _ _ rfl (n : Int) rfl rfl Try.underlying56 (.bool false) 1 info4 rfl (by decide) (by omega) false (ok := fun _ => True) (okp := fun _ => True) rfl (fun _ hk => hk) trivial (by omega) (by omega) ?hB ?hS ?_; (case hB => exact pw_below_drewN (Below.refl _ _) _); (case hS => exact Nat.le_refl _); intro v30 W3 ho3 hb3 hg3 hat3; clear hg3; obtain ⟨g, cap, rfl, hcap⟩ := own_form ho3 hat3; (rw [List.length_replicate, Int.toNat_natCast] at hcap); (rw [List.length_replicate, Int.toNat_natCast] at ho3); obtain ⟨W4, hcp, ho4, hb4⟩ := copy_trues (w := w) (W := W3) 0 (Nat.min 1 n) (by show 0 + min 1 n ≤ n; omega) ho3 hb3 cap ⟨g0, 0, none⟩ 1 1 (fun i hi => by (have h0 : i = 0 := by { have : i < min 1 n := hi; omega }); subst h0; rw [add_plain]; exact pw_cell_below hb3 HX.out) rfl; simp only [Nat.sub_zero] at hcp; have HO4 := Aside0.mk ho4; have HB4 := Aside0.mk hb4; clear ho4 hb4 ho3 hb3 hat3))
  go_loopg [8] n (fun kq v8 w' => ∃ m : Nat, v8 = .int .i64 (m : Int) ∧ Aside0 (m ≤ n ∧ (0 < n → 0 < m) ∧ n ≤ m + kq) ∧ Aside0 (Kd.bool.R 4 w' w.heap.size (fun _ => True) (.slice (some ⟨g, 0, none⟩) n cap) (List.replicate m true ++ List.replicate (n - m) false)) ∧ Aside0 (Below w.heap.size w w'))
  case atStart => exact ⟨Nat.min 1 n, rfl, ⟨by show min 1 n ≤ n ∧ (0 < n → 0 < min 1 n) ∧ n ≤ min 1 n + n; omega⟩, ⟨by have := HO4.out; rwa [Nat.zero_add] at this⟩, HB4⟩
  case round =>
    clear w1 w2 d1 d2 hcp
    obtain ⟨m, rfl, HM, HO, HB⟩ := hrel
    obtain ⟨hm1, hm2, hm3⟩ := HM.out
    obtain ⟨i0, hi, hz0, hz1, hz2⟩ := info_parts info4
    by_cases hlt : m < n
    · have c1 : decide ((m : Int) < (n : Int)) = true := decide_eq_true (by omega)
      have hcut1 : ∀ W : World, (Instr.slice 56 (.slice (some ⟨g, 0, none⟩) n cap) (some (.int .i64 (m : Int))) none none).run Try.prog W = .ok (.slice (some ⟨g, m, none⟩) (n - m) (cap - m)) W := fun W => by
        have h := cut_from (P := Try.prog) 56 4 .i64 Try.underlying56 hi 1 hz1 (some ⟨g, 0, none⟩) n cap (m : Int) (by omega) (by omega) W
        rw [if_neg (by omega), Int.toNat_natCast, Nat.mul_one] at h
        rw [h, Option.map_some, add_plain]
      have hcut2 := cut_to (P := Try.prog) 56 4 .i64 Try.underlying56 hi (some ⟨g, 0, none⟩) n cap (m : Int) (by omega) (by omega) (by omega)
      rw [Int.toNat_natCast] at hcut2
      have hm0 := hm2 (by omega)
      obtain ⟨j, hj⟩ : ∃ j, j = Nat.min m (n - m) := ⟨_, rfl⟩
      have hj' : j = min m (n - m) := hj
      have HJ := Aside0.mk (show 0 < j ∧ m + j ≤ n from by clear hcut1 hcut2; omega)
      obtain ⟨W5, hcp5, ho5, hb5⟩ := copy_trues (w := w) (W := wr.drew) m j (by omega) (Kd.R_drew HO.out) (below_drew HB.out) (cap - m) ⟨g, 0, none⟩ m cap (fun i hi => by
        have hi2 : i < min m (n - m) := by rw [← hj']; exact hi
        obtain ⟨ad, eA, hc⟩ := Kd.at_bool (Kd.R_reads' (Kd.R_drew HO.out)).2.2 (i : Int) (by omega) (by simp only [List.length_append, List.length_replicate]; omega)
        cases eA
        rw [Int.toNat_natCast] at hc
        rw [hc]
        congr 2
        simp only [rdOf, Int.toNat_natCast, List.getD_eq_getElem?_getD]
        rw [List.getElem?_append_left (by rw [List.length_replicate]; omega), List.getElem?_replicate, if_pos (by omega)]
        rfl) hj
      have w3 : wrap64 ((m : Int) + (j : Int)) = ((m + j : Nat) : Int) := by
        have := HJ.out
        clear hcut1 hcut2 hcp5 ho5 hb5
        unfold wrap64
        omega
      have HO5 := Aside0.mk ho5
      have HB5 := Aside0.mk hb5
      clear ho5 hb5 hj hj'
      go_wp2
      go_region
      all_goals
        go_wp2
        go_roundg (n - (m + j))
        case measure => have := HM.out; have := HJ.out; omega
        case rel => exact ⟨m + j, by rw [w3], ⟨by have := HM.out; have := HJ.out; omega⟩, HO5, HB5⟩
    · have c1 : decide ((m : Int) < (n : Int)) = false := decide_eq_false (by omega)
      go_wp2
      go_ret
      obtain rfl : m = n := by omega
      exact ⟨_, rfl, by have := HO.out; simpa using this, ⟨g, rfl⟩, HB.out⟩
end Go.Proofs.Ytpmlcmdojmdmhaa.PR
