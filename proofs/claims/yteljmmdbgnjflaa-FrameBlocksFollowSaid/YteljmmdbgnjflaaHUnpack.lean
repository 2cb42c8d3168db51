/- frame.one and frame.Unpack: they give an answer at every list of bytes; what they accept is a packed form; packed forms are accepted. frame.Unpack: what it accepts is the packed form of what it returns, and it accepts every packed form. -/
import Derived.Test.YteljmmdbgnjflaaHExpand
import Derived.Test.YteljmmdbgnjflaaPFx13
set_option linter.unusedVariables false
set_option linter.unusedSimpArgs false
namespace Go.Proofs.Yteljmmdbgnjflaa.PF
open Go.RowKit Go.Proofs.YteljmmdbgnjflaaW.PrintWords Go.Proofs.YteljmmdbgnjflaaW.PrintLast Go.Proofs.YteljmmdbgnjflaaW.PrintMore Go.Proofs.Yteljmmdbgnjflaa.H

/-! ### the checksum's range -/
theorem sumStep_range (s : Int × Int) (x : Int) (hx : 0 ≤ x ∧ x < 256) (h : 0 ≤ s.1 ∧ s.1 < 65521 ∧ 0 ≤ s.2 ∧ s.2 < 65521) : 0 ≤ (sumStep s x).1 ∧ (sumStep s x).1 < 65521 ∧ 0 ≤ (sumStep s x).2 ∧ (sumStep s x).2 < 65521 ∧ (sumStep s x).1 = (s.1 + x) % 65521 ∧ (sumStep s x).2 = (s.2 + (s.1 + x) % 65521) % 65521 := by
  have e : sumStep s x = ((s.1 + x) % 65521, (s.2 + (s.1 + x) % 65521) % 65521) := by
    unfold sumStep
    rw [wb hx.1 hx.2, w64 (v := s.1 + x) (by omega) (by omega), Int.tmod_eq_emod_of_nonneg (a := s.1 + x) (by omega)]
    rw [w64 (v := s.2 + (s.1 + x) % 65521) (by omega) (by omega), Int.tmod_eq_emod_of_nonneg (a := s.2 + (s.1 + x) % 65521) (by omega)]
  rw [e]
  refine ⟨?_, ?_, ?_, ?_, rfl, rfl⟩ <;> dsimp only <;> omega
theorem sumF_range (xs : List Int) (hx : Bytes xs) : ∀ s : Int × Int, 0 ≤ s.1 ∧ s.1 < 65521 ∧ 0 ≤ s.2 ∧ s.2 < 65521 → 0 ≤ (xs.foldl sumStep s).1 ∧ (xs.foldl sumStep s).1 < 65521 ∧ 0 ≤ (xs.foldl sumStep s).2 ∧ (xs.foldl sumStep s).2 < 65521 := by
  induction xs with
  | nil => intro s h; exact h
  | cons x xs ih =>
    intro s h
    rw [List.foldl_cons]
    obtain ⟨h1, h2, h3, h4, _⟩ := sumStep_range s x (hx x (by simp)) h
    exact ih (fun y hy => hx y (by simp [hy])) _ ⟨h1, h2, h3, h4⟩
theorem sum_eq (xs : List Int) (hx : Bytes xs) : sum xs = 65536 * (xs.foldl sumStep (1, 0)).2 + (xs.foldl sumStep (1, 0)).1 := by
  obtain ⟨h1, h2, h3, h4⟩ := sumF_range xs hx (1, 0) (by simp)
  unfold sum
  rw [w64 (by omega) (by omega), or_high 16 _ _ (by omega) (by omega) (by omega) h1 (by omega) (by omega)]
  omega
theorem sum_range (xs : List Int) (hx : Bytes xs) : 0 ≤ sum xs ∧ sum xs < 4294967296 := by
  obtain ⟨h1, h2, h3, h4⟩ := sumF_range xs hx (1, 0) (by simp)
  rw [sum_eq xs hx]
  omega

/-! ### one -/
theorem frame1_length (p : List Int) : (frame1 p).length = 8 + (comp p).length := by simp only [frame1, List.length_append, le_length]
theorem frame1_bytes (p : List Int) (hp : Bytes p) : Bytes (frame1 p) := (((Bytes.le _ _).append (Bytes.le _ _)).append (Bytes.le _ _)).append (comp_bytes p hp)
theorem bytes_eq_true {a b : List Int} (h : a = b) : bytes_Equal.f a b = some true := by subst h; simp [bytes_Equal.f]
theorem bytes_eq_of {a b : List Int} (ha : Bytes a) (hb : Bytes b) (h : bytes_Equal.f a b = some true) : a = b := strOfNums_inj ha hb (by simpa [bytes_Equal.f] using h)

/-- What one says: it accepts, or it does not. -/
def OneOk (b : List Int) (r : List Int × Int × Bool) : Prop :=
  (r = ([], 0, false)) ∨ ∃ d : List Int, Bytes d ∧ 1 ≤ d.length ∧ d.length ≤ 1024 ∧ 8 + (comp d).length ≤ b.length ∧ b.take (8 + (comp d).length) = frame1 d ∧ (d.length < 1024 → 8 + (comp d).length = b.length) ∧ r = (d, ((8 + (comp d).length : Nat) : Int), true)

theorem one_go (b : List Int) (hB : Bytes b) (hl : b.length ≤ 200000) (h8 : ¬ b.length < 8) (hbad : ¬ (num2 b = 0 ∨ num2 b > 1024 ∨ 8 + num2 (b.drop 2) > (b.length : Int))) (m : Nat) (hm : num2 (b.drop 2) = (m : Int)) (d : List Int) (ok : Bool)
    (hx0 : Ev (fun k => frame_expand.f k ((b.drop 8).take m) (num2 b)) (d, ok)) {r : List Int × Int × Bool}
    (h : Ev (fun k => if ok = true then ((frame_Sum.f k d).bind fun t127 => ((frame_get.f k (b.drop 4) 4).bind fun t129 => (if t127 = t129 then ((frame_compress.f k d).bind fun t130 => ((bytes_Equal.f t130 ((b.drop 8).take m)).bind fun t134 => (if t134 = true then (if num2 b < 1024 then (if 8 + num2 (b.drop 2) < (b.length : Int) then (some (([] : List Int), (0 : Int), false)) else (some (d, 8 + num2 (b.drop 2), true))) else (some (d, 8 + num2 (b.drop 2), true))) else (some (([] : List Int), 0, false))))) else (some (([] : List Int), 0, false))))) else some ([], 0, false)) r) : Ev (fun k => frame_one.f k b) r := by
  have g1 := get2_ev b hB (by omega)
  have g2 := get2_ev (b.drop 2) (hB.drop 2) (by rw [List.length_drop]; omega)
  have g4 := get4_ev (b.drop 4) (hB.drop 4) (by rw [List.length_drop]; omega)
  have r1 : 0 ≤ num2 b ∧ num2 b < 65536 := by have h0 := hB.at_ 0; have h1 := hB.at_ 1; unfold num2; omega
  have r2 : 0 ≤ num2 (b.drop 2) ∧ num2 (b.drop 2) < 65536 := by have h0 := (hB.drop 2).at_ 0; have h1 := (hB.drop 2).at_ 1; unfold num2; omega
  have e6 : Aside0 (wrap64 (8 + num2 (b.drop 2)) = 8 + num2 (b.drop 2)) := ⟨by rw [w64 (by omega) (by omega)]⟩
  have start : ∀ {r}, Ev (fun k => frame_one.j0 k b (num2 b) (8 + num2 (b.drop 2)) (decide (num2 b = 0) || decide (num2 b > 1024) || decide (8 + num2 (b.drop 2) > (b.length : Int)))) r → Ev (fun k => frame_one.f k b) r := by
    intro r h
    refine Ev.congr (f := fun k => (frame_get.f k b 2).bind fun t119 => (frame_get.f k (b.drop 2) 2).bind fun t121 => (if t119 = 0 then (frame_one.j0 k b t119 (wrap64 (8 + t121)) true) else (if t119 > 1024 then (frame_one.j0 k b t119 (wrap64 (8 + t121)) true) else (frame_one.j0 k b t119 (wrap64 (8 + t121)) (decide ((wrap64 (8 + t121)) > (b.length : Int))))))) (fun k => ?_) (Ev.bind g1 (Ev.bind g2 ?_))
    · unfold frame_one.f
      rw [if_neg (by omega)]
      congr 1
      funext t
      rw [if_pos (by omega)]
    · refine Ev.congr (fun k => ?_) h
      rw [e6.out]
      by_cases c1 : num2 b = 0
      · rw [if_pos c1]; simp [c1]
      · by_cases c2 : num2 b > 1024
        · rw [if_neg c1, if_pos c2]; simp [c2]
        · rw [if_neg c1, if_neg c2]; simp [c1, c2]
  have hgood : (decide (num2 b = 0) || decide (num2 b > 1024) || decide (8 + num2 (b.drop 2) > (b.length : Int))) = false := by
    simp only [Bool.or_eq_false_iff, decide_eq_false_iff_not]
    omega
  rw [hgood] at start
  have hcut : (b.take (8 + num2 (b.drop 2)).toNat).drop 8 = (b.drop 8).take m := by
    rw [hm, show (8 + (m : Int)).toNat = 8 + m by omega, List.drop_take]
    congr 1
    omega
  have hx' : Ev (fun k => frame_expand.f k ((b.take (8 + num2 (b.drop 2)).toNat).drop 8) (num2 b)) (d, ok) := by rw [hcut]; exact hx0
  refine start (Ev.step (fun k => ?_) (Ev.bind hx' (f := fun k bt => if bt.2 = true then ((frame_Sum.f k bt.1).bind fun t127 => ((frame_get.f k (b.drop 4) 4).bind fun t129 => (if t127 = t129 then ((frame_compress.f k bt.1).bind fun t130 => ((bytes_Equal.f t130 ((b.drop 8).take m)).bind fun t134 => (if t134 = true then (if num2 b < 1024 then (if 8 + num2 (b.drop 2) < (b.length : Int) then (some (([] : List Int), (0 : Int), false)) else (some (bt.1, 8 + num2 (b.drop 2), true))) else (some (bt.1, 8 + num2 (b.drop 2), true))) else (some (([] : List Int), 0, false))))) else (some (([] : List Int), 0, false))))) else some ([], 0, false)) h))
  simp only [frame_one.j0]
  rw [if_neg (by simp), if_pos (by omega), if_pos (by omega)]
  congr 1
  funext bt
  split
  · congr 1
    funext t
    rw [if_pos (by omega), hcut]
  · rfl

theorem one_total (b : List Int) (hB : Bytes b) (hl : b.length ≤ 200000) : ∃ r, Ev (fun k => frame_one.f k b) r ∧ OneOk b r := by
  have no : OneOk b ([], 0, false) := .inl rfl
  by_cases h8 : b.length < 8
  · exact ⟨_, Ev.congr (fun k => by unfold frame_one.f; rw [if_pos (by omega)]) (Ev.now _), no⟩
  have g1 := get2_ev b hB (by omega)
  have g2 := get2_ev (b.drop 2) (hB.drop 2) (by rw [List.length_drop]; omega)
  have g4 := get4_ev (b.drop 4) (hB.drop 4) (by rw [List.length_drop]; omega)
  have r1 : 0 ≤ num2 b ∧ num2 b < 65536 := by have h0 := hB.at_ 0; have h1 := hB.at_ 1; unfold num2; omega
  have r2 : 0 ≤ num2 (b.drop 2) ∧ num2 (b.drop 2) < 65536 := by have h0 := (hB.drop 2).at_ 0; have h1 := (hB.drop 2).at_ 1; unfold num2; omega
  have e6 : Aside0 (wrap64 (8 + num2 (b.drop 2)) = 8 + num2 (b.drop 2)) := ⟨by rw [w64 (by omega) (by omega)]⟩
  have start : ∀ {r}, Ev (fun k => frame_one.j0 k b (num2 b) (8 + num2 (b.drop 2)) (decide (num2 b = 0) || decide (num2 b > 1024) || decide (8 + num2 (b.drop 2) > (b.length : Int)))) r → Ev (fun k => frame_one.f k b) r := by
    intro r h
    refine Ev.congr (f := fun k => (frame_get.f k b 2).bind fun t119 => (frame_get.f k (b.drop 2) 2).bind fun t121 => (if t119 = 0 then (frame_one.j0 k b t119 (wrap64 (8 + t121)) true) else (if t119 > 1024 then (frame_one.j0 k b t119 (wrap64 (8 + t121)) true) else (frame_one.j0 k b t119 (wrap64 (8 + t121)) (decide ((wrap64 (8 + t121)) > (b.length : Int))))))) (fun k => ?_) (Ev.bind g1 (Ev.bind g2 ?_))
    · unfold frame_one.f
      rw [if_neg (by omega)]
      congr 1
      funext t
      rw [if_pos (by omega)]
    · refine Ev.congr (fun k => ?_) h
      rw [e6.out]
      by_cases c1 : num2 b = 0
      · rw [if_pos c1]; simp [c1]
      · by_cases c2 : num2 b > 1024
        · rw [if_neg c1, if_pos c2]; simp [c2]
        · rw [if_neg c1, if_neg c2]; simp [c1, c2]
  by_cases hbad : num2 b = 0 ∨ num2 b > 1024 ∨ 8 + num2 (b.drop 2) > (b.length : Int)
  · refine ⟨_, start (Ev.step (f := fun _ => some ([], 0, false)) (fun k => ?_) (Ev.now _)), no⟩
    simp only [frame_one.j0]
    rw [if_pos]
    rcases hbad with h | h | h <;> simp [h]
  have hgood : (decide (num2 b = 0) || decide (num2 b > 1024) || decide (8 + num2 (b.drop 2) > (b.length : Int))) = false := by
    simp only [Bool.or_eq_false_iff, decide_eq_false_iff_not]
    omega
  rw [hgood] at start
  obtain ⟨m, hm⟩ : ∃ m : Nat, num2 (b.drop 2) = (m : Int) := ⟨(num2 (b.drop 2)).toNat, by omega⟩
  have hcut : (b.take (8 + num2 (b.drop 2)).toNat).drop 8 = (b.drop 8).take m := by
    rw [hm, show (8 + (m : Int)).toNat = 8 + m by omega, List.drop_take]
    congr 1
    omega
  have hP : Bytes ((b.drop 8).take m) := (hB.drop 8).take m
  have hPl : ((b.drop 8).take m).length = m := by rw [List.length_take, List.length_drop]; omega
  obtain ⟨⟨d, ok⟩, hx, hq⟩ := expand_total ((b.drop 8).take m) hP (by omega) (num2 b) (by omega) m 0 [] (by omega) Bytes.nil (by simp; omega)
  have go : ∀ {r}, Ev (fun k => if ok = true then ((frame_Sum.f k d).bind fun t127 => ((frame_get.f k (b.drop 4) 4).bind fun t129 => (if t127 = t129 then ((frame_compress.f k d).bind fun t130 => ((bytes_Equal.f t130 ((b.drop 8).take m)).bind fun t134 => (if t134 = true then (if num2 b < 1024 then (if 8 + num2 (b.drop 2) < (b.length : Int) then (some (([] : List Int), (0 : Int), false)) else (some (d, 8 + num2 (b.drop 2), true))) else (some (d, 8 + num2 (b.drop 2), true))) else (some (([] : List Int), 0, false))))) else (some (([] : List Int), 0, false))))) else some ([], 0, false)) r → Ev (fun k => frame_one.f k b) r := fun h => one_go b hB hl h8 hbad m hm d ok hx h
  cases ok with
  | false => exact ⟨_, go (Ev.congr (fun k => by rw [if_neg (by simp)]) (Ev.now _)), no⟩
  | true =>
    obtain ⟨hBd, hld⟩ := hq rfl
    simp only at hBd hld
    by_cases hs : sum d = num4 (b.drop 4)
    · have hce := compress_ev d (by omega)
      have hse := sum_ev d (by omega)
      by_cases hc : comp d = (b.drop 8).take m
      · have hm2 : (comp d).length = m := by rw [hc, hPl]
        have hfin : ∀ {r}, Ev (fun k => if num2 b < 1024 then (if 8 + num2 (b.drop 2) < (b.length : Int) then (some (([] : List Int), (0 : Int), false)) else (some (d, 8 + num2 (b.drop 2), true))) else (some (d, 8 + num2 (b.drop 2), true))) r → Ev (fun k => frame_one.f k b) r := by
          intro r h
          refine go ?_
          refine Ev.congr (fun k => if_pos rfl) ?_
          refine Ev.bind hse ?_
          refine Ev.bind g4 ?_
          refine Ev.congr (fun k => if_pos hs) ?_
          refine Ev.bind hce ?_
          refine Ev.congr (fun k => ?_) h
          rw [bytes_eq_true hc]
          simp only [Option.bind_some, if_true]
        by_cases hlast : num2 b < 1024 ∧ 8 + num2 (b.drop 2) < (b.length : Int)
        · exact ⟨_, hfin (Ev.congr (fun k => by rw [if_pos hlast.1, if_pos hlast.2]) (Ev.now _)), no⟩
        · refine ⟨(d, 8 + num2 (b.drop 2), true), hfin (Ev.congr (fun k => ?_) (Ev.now _)), .inr ⟨d, hBd, by omega, by omega, by omega, ?_, fun h => by omega, ?_⟩⟩
          · split
            · split
              · rename_i h1 h2; exact absurd ⟨h1, h2⟩ hlast
              · rfl
            · rfl
          · rw [hm2]
            unfold frame1
            rw [hld, le2_num b hB (by omega), hm2, ← hm, le2_num (b.drop 2) (hB.drop 2) (by rw [List.length_drop]; omega), hs, le4_num (b.drop 4) (hB.drop 4) (by rw [List.length_drop]; omega), hc]
            rw [List.take_add (i := 8), show (8 : Nat) = 4 + 4 from rfl, List.take_add, show (4 : Nat) = 2 + 2 from rfl, List.take_add (i := 2) (j := 2)]
          · rw [hm2, hm]
            simp
      · refine ⟨([], 0, false), go ?_, no⟩
        refine Ev.congr (fun k => if_pos rfl) ?_
        refine Ev.bind hse ?_
        refine Ev.bind g4 ?_
        refine Ev.congr (fun k => if_pos hs) ?_
        refine Ev.bind hce ?_
        refine Ev.congr (f := fun _ => some ([], 0, false)) (fun k => ?_) (Ev.now _)
        cases h : bytes_Equal.f (comp d) ((b.drop 8).take m) with
        | none => simp [bytes_Equal.f] at h
        | some v =>
          cases v with
          | false => simp
          | true => exact absurd (bytes_eq_of (comp_bytes d hBd) hP h) hc
    · refine ⟨([], 0, false), go ?_, no⟩
      refine Ev.congr (fun k => if_pos rfl) ?_
      refine Ev.bind (sum_ev d (by omega)) ?_
      refine Ev.bind g4 ?_
      exact Ev.congr (fun k => if_neg hs) (Ev.now _)

theorem one_frame (p rest : List Int) (hp : Bytes p) (hr : Bytes rest) (h1 : 1 ≤ p.length) (h2 : p.length ≤ 1024) (hlast : p.length < 1024 → rest = []) (hl : (frame1 p ++ rest).length ≤ 200000) :
    Ev (fun k => frame_one.f k (frame1 p ++ rest)) (p, ((8 + (comp p).length : Nat) : Int), true) := by
  have hcl := comp_length p
  have hfl := frame1_length p
  have hB : Bytes (frame1 p ++ rest) := (frame1_bytes p hp).append hr
  have hlen : (frame1 p ++ rest).length = 8 + (comp p).length + rest.length := by rw [List.length_append, hfl]
  have s := sum_range p hp
  have hsplit : frame1 p ++ rest = le 2 p.length ++ (le 2 (comp p).length ++ (le 4 (sum p) ++ (comp p ++ rest))) := by simp [frame1]
  have d2 : (frame1 p ++ rest).drop 2 = le 2 (comp p).length ++ (le 4 (sum p) ++ (comp p ++ rest)) := by
    rw [hsplit, List.drop_append_of_le_length (by rw [le_length]; omega), List.drop_eq_nil_of_le (by rw [le_length]; omega), List.nil_append]
  have d4 : (frame1 p ++ rest).drop 4 = le 4 (sum p) ++ (comp p ++ rest) := by
    rw [show (4 : Nat) = 2 + 2 from rfl, ← List.drop_drop, d2, List.drop_append_of_le_length (by rw [le_length]; omega), List.drop_eq_nil_of_le (by rw [le_length]; omega), List.nil_append]
  have d8 : (frame1 p ++ rest).drop 8 = comp p ++ rest := by
    rw [show (8 : Nat) = 4 + 4 from rfl, ← List.drop_drop, d4, List.drop_append_of_le_length (by rw [le_length]; omega), List.drop_eq_nil_of_le (by rw [le_length]; omega), List.nil_append]
  have n1 : num2 (frame1 p ++ rest) = (p.length : Int) := by rw [hsplit]; exact num2_le _ (by omega) (by omega) _
  have n2 : num2 ((frame1 p ++ rest).drop 2) = ((comp p).length : Int) := by rw [d2]; exact num2_le _ (by omega) (by omega) _
  have n4 : num4 ((frame1 p ++ rest).drop 4) = sum p := by rw [d4]; exact num4_le _ s.1 s.2 _
  have hc : (comp p) = ((frame1 p ++ rest).drop 8).take (comp p).length := by rw [d8]; simp
  refine one_go (frame1 p ++ rest) hB hl (by omega) (by rw [n1, n2]; omega) (comp p).length n2 p true (by rw [← hc, n1]; exact expand_comp p hp (by omega)) ?_
  refine Ev.congr (fun k => if_pos rfl) ?_
  refine Ev.bind (sum_ev p (by omega)) ?_
  refine Ev.bind (get4_ev _ (hB.drop 4) (by rw [List.length_drop]; omega)) ?_
  refine Ev.congr (fun k => if_pos n4.symm) ?_
  refine Ev.bind (compress_ev p (by omega)) ?_
  refine Ev.congr (f := fun _ => some (p, ((8 + (comp p).length : Nat) : Int), true)) (fun k => ?_) (Ev.now _)
  rw [bytes_eq_true hc, n1, n2]
  simp only [Option.bind_some, if_true]
  by_cases hq : p.length < 1024
  · have := hlast hq
    subst this
    rw [if_pos (by omega), if_neg (by rw [hlen]; simp)]
    simp
  · rw [if_neg (by omega)]
    simp
end Go.Proofs.Yteljmmdbgnjflaa.PF

namespace Go.Proofs.Yteljmmdbgnjflaa.PF
open Go.RowKit Go.Proofs.YteljmmdbgnjflaaW.PrintWords Go.Proofs.YteljmmdbgnjflaaW.PrintLast Go.Proofs.YteljmmdbgnjflaaW.PrintMore Go.Proofs.Yteljmmdbgnjflaa.H

theorem pieces_cons (xs : List Int) (m k : Nat) : pieces xs m (k + 1) = xs.take m :: pieces (xs.drop m) m k := by
  unfold pieces
  rw [List.range_succ_eq_map, List.map_cons, List.map_map]
  congr 1
  · simp
  · apply List.map_congr_left
    intro j _
    simp only [Function.comp_apply, List.drop_drop]
    congr 2
    rw [Nat.succ_mul]; omega
theorem frames_nil : frames [] = [] := by simp [frames, pieces]
theorem frames_cons (xs : List Int) (h : 1 ≤ xs.length) : frames xs = frame1 (xs.take 1024) ++ frames (xs.drop 1024) := by
  unfold frames
  have : (xs.length + 1023) / 1024 = ((xs.drop 1024).length + 1023) / 1024 + 1 := by rw [List.length_drop]; omega
  rw [this, pieces_cons, List.flatMap_cons]
theorem frames_one (d : List Int) (h1 : 1 ≤ d.length) (h2 : d.length ≤ 1024) : frames d = frame1 d := by
  rw [frames_cons d h1, List.take_of_length_le h2, List.drop_eq_nil_of_le h2, frames_nil, List.append_nil]
theorem frames_append : ∀ (n : Nat) (a b : List Int), a.length = 1024 * n → frames (a ++ b) = frames a ++ frames b := by
  intro n
  induction n with
  | zero =>
    intro a b h
    have : a = [] := List.eq_nil_of_length_eq_zero (by omega)
    subst this
    simp [frames_nil]
  | succ n ih =>
    intro a b h
    rw [frames_cons (a ++ b) (by rw [List.length_append]; omega), frames_cons a (by omega), List.take_append_of_le_length (by omega), List.drop_append_of_le_length (by omega), ih (a.drop 1024) b (by rw [List.length_drop]; omega), List.append_assoc]
theorem frames_bytes : ∀ (n : Nat) (xs : List Int), xs.length ≤ n → Bytes xs → Bytes (frames xs) ∧ (frames xs).length ≤ 10 * xs.length := by
  intro n
  induction n with
  | zero =>
    intro xs h _
    have : xs = [] := List.eq_nil_of_length_eq_zero (by omega)
    subst this
    rw [frames_nil]
    exact ⟨Bytes.nil, by simp⟩
  | succ n ih =>
    intro xs h hx
    by_cases h0 : 1 ≤ xs.length
    · obtain ⟨i1, i2⟩ := ih (xs.drop 1024) (by rw [List.length_drop]; omega) (hx.drop 1024)
      rw [frames_cons xs h0]
      refine ⟨(frame1_bytes _ (hx.take 1024)).append i1, ?_⟩
      have hc := comp_length (xs.take 1024)
      rw [List.length_append, frame1_length]
      rw [List.length_drop] at i2
      rw [List.length_take] at hc
      omega
    · have : xs = [] := List.eq_nil_of_length_eq_zero (by omega)
      subst this
      rw [frames_nil]
      exact ⟨Bytes.nil, by simp⟩

/-- What Unpack says of b. -/
def UnOk (b : List Int) (r : List Int × Int × Int) : Prop :=
  (∃ at' : Nat, at' < b.length ∧ r = ([], 17, (at' : Int))) ∨ r = ([], 10, -2) ∨ ∃ d, Bytes d ∧ frames d = b ∧ d.length ≤ 100000 ∧ r = (d, 0, 0)

theorem unpack_l0 (b : List Int) (hB : Bytes b) (hl : b.length ≤ 200000) : ∀ c (at' : Nat) (out : List Int), b.length - at' ≤ c → at' ≤ b.length → Bytes out → frames out = b.take at' → (at' = b.length ∨ ∃ n, out.length = 1024 * n) → out.length ≤ 100000 →
    ∃ r, Ev (fun k => frame_Unpack.l0 k b out (at' : Int)) r ∧ UnOk b r := by
  intro c
  induction c with
  | zero =>
    intro at' out hc ha hBo hf _ ho
    have e : at' = b.length := by omega
    refine ⟨(out, 0, 0), Ev.step (f := fun _ => some (out, 0, 0)) (fun k => ?_) (Ev.now _), .inr (.inr ⟨out, hBo, by rw [hf, e, List.take_length], ho, rfl⟩)⟩
    simp only [frame_Unpack.l0]
    rw [if_neg (by omega)]
  | succ c ih =>
    intro at' out hc ha hBo hf hn ho
    by_cases hlt : at' < b.length
    · have hdl : (b.drop at').length = b.length - at' := List.length_drop
      obtain ⟨r1, h1, hok⟩ := one_total (b.drop at') (hB.drop at') (by omega)
      have go : ∀ {r}, Ev (fun k => if r1.2.2 = true then (if out.length + r1.1.length < 140737488355328 then (if ((out ++ r1.1).length : Int) > 100000 then (some (([] : List Int), (10 : Int), (-2 : Int))) else (frame_Unpack.l0 k b (out ++ r1.1) (wrap64 ((at' : Int) + r1.2.1)))) else (none)) else (some (([] : List Int), 17, (at' : Int)))) r → Ev (fun k => frame_Unpack.l0 k b out (at' : Int)) r := by
        intro r h
        refine Ev.step (fun k => ?_) (Ev.bind h1 (f := fun k bt => if bt.2.2 = true then (if out.length + bt.1.length < 140737488355328 then (if ((out ++ bt.1).length : Int) > 100000 then (some (([] : List Int), (10 : Int), (-2 : Int))) else (frame_Unpack.l0 k b (out ++ bt.1) (wrap64 ((at' : Int) + bt.2.1)))) else (none)) else (some (([] : List Int), 17, (at' : Int)))) h)
        simp only [frame_Unpack.l0]
        rw [if_pos (by omega), if_pos (by omega), if_pos (by omega), Int.toNat_natCast]
        rfl
      rcases hok with rfl | ⟨d, hBd, d1, d2, dl, dt, dlast, rfl⟩
      · exact ⟨_, go (Ev.congr (fun k => if_neg (by simp)) (Ev.now _)), .inl ⟨at', hlt, rfl⟩⟩
      · by_cases hbig : ((out ++ d).length : Int) > 100000
        · refine ⟨_, go ?_, .inr (.inl rfl)⟩
          refine Ev.congr (fun k => ?_) (Ev.now _)
          simp only
          rw [if_pos trivial, if_pos (by omega), if_pos hbig]
        · have hn' : ∃ n, out.length = 1024 * n := by
            rcases hn with e | e
            · omega
            · exact e
          clear hn
          obtain ⟨n, hn'⟩ := hn'
          rw [hdl] at dl dlast
          have hf2 : frames (out ++ d) = b.take (at' + (8 + (comp d).length)) := by
            rw [frames_append n out d hn', hf, frames_one d d1 d2, ← dt]
            exact (List.take_add (l := b) (i := at') (j := 8 + (comp d).length)).symm
          obtain ⟨r, hr, hq⟩ := ih (at' + (8 + (comp d).length)) (out ++ d) (by omega) (by omega) (hBo.append hBd) hf2 (by
            by_cases h : d.length < 1024
            · exact .inl (by have := dlast h; omega)
            · exact .inr ⟨n + 1, by rw [List.length_append]; omega⟩) (by omega)
          refine ⟨r, go (Ev.congr (fun k => ?_) hr), hq⟩
          simp only
          rw [if_pos trivial, if_pos (by rw [List.length_append] at hbig; omega), if_neg hbig, w64 (by omega) (by omega)]
          simp
    · have e : at' = b.length := by omega
      refine ⟨(out, 0, 0), Ev.step (f := fun _ => some (out, 0, 0)) (fun k => ?_) (Ev.now _), .inr (.inr ⟨out, hBo, by rw [hf, e, List.take_length], ho, rfl⟩)⟩
      simp only [frame_Unpack.l0]
      rw [if_neg (by omega)]

theorem unpack_total (b : List Int) (hB : Bytes b) (hl : b.length ≤ 200000) : ∃ r, Ev (fun k => frame_Unpack.f k b) r ∧ UnOk b r := by
  obtain ⟨r, hr, hq⟩ := unpack_l0 b hB hl b.length 0 [] (by omega) (by omega) Bytes.nil (by rw [frames_nil]; simp) (.inr ⟨0, by simp⟩) (by simp)
  refine ⟨r, Ev.congr (fun k => ?_) hr, hq⟩
  unfold frame_Unpack.f
  rw [if_neg (by omega)]
  rfl

theorem unpack_frames_l0 (b : List Int) (hl : b.length ≤ 200000) : ∀ c (xs out : List Int) (at' : Nat), xs.length ≤ c → Bytes xs → b.drop at' = frames xs → at' ≤ b.length → out.length + xs.length ≤ 100000 → Ev (fun k => frame_Unpack.l0 k b out (at' : Int)) (out ++ xs, 0, 0) := by
  intro c
  induction c with
  | zero =>
    intro xs out at' hc _ hd ha ho
    have : xs = [] := List.eq_nil_of_length_eq_zero (by omega)
    subst this
    rw [frames_nil] at hd
    have e : b.length ≤ at' := by have := congrArg List.length hd; rw [List.length_drop] at this; simp at this; omega
    rw [List.append_nil]
    refine Ev.step (f := fun _ => some (out, 0, 0)) (fun k => ?_) (Ev.now _)
    simp only [frame_Unpack.l0]
    rw [if_neg (by omega)]
  | succ c ih =>
    intro xs out at' hc hx hd ha ho
    by_cases h0 : 1 ≤ xs.length
    · have hd1 := hd
      rw [frames_cons xs h0] at hd
      obtain ⟨fb, _⟩ := frames_bytes _ (xs.drop 1024) (Nat.le_refl _) (hx.drop 1024)
      have hdl := congrArg List.length hd
      rw [List.length_drop, List.length_append, frame1_length] at hdl
      have h1 : Ev (fun k => frame_one.f k (b.drop at')) (xs.take 1024, ((8 + (comp (xs.take 1024)).length : Nat) : Int), true) := by
        rw [hd]
        refine one_frame (xs.take 1024) (frames (xs.drop 1024)) (hx.take 1024) fb (by rw [List.length_take]; omega) (List.length_take_le _ _) (fun h => ?_) (by rw [← hd, List.length_drop]; omega)
        rw [List.length_take] at h
        rw [List.drop_eq_nil_of_le (by omega), frames_nil]
      have hnext := ih (xs.drop 1024) (out ++ xs.take 1024) (at' + (8 + (comp (xs.take 1024)).length)) (by rw [List.length_drop]; omega) (hx.drop 1024) (by
        rw [← List.drop_drop, hd, List.drop_append_of_le_length (by rw [frame1_length]; omega), List.drop_eq_nil_of_le (by rw [frame1_length]; omega), List.nil_append]) (by omega) (by rw [List.length_append, List.length_take, List.length_drop]; omega)
      rw [List.append_assoc, List.take_append_drop] at hnext
      refine Ev.step (fun k => ?_) (Ev.bind h1 (f := fun k bt => if bt.2.2 = true then (if out.length + bt.1.length < 140737488355328 then (if ((out ++ bt.1).length : Int) > 100000 then (some (([] : List Int), (10 : Int), (-2 : Int))) else (frame_Unpack.l0 k b (out ++ bt.1) (wrap64 ((at' : Int) + bt.2.1)))) else (none)) else (some (([] : List Int), 17, (at' : Int)))) (Ev.congr (fun k => ?_) hnext))
      · simp only [frame_Unpack.l0]
        rw [if_pos (by omega), if_pos (by omega), if_pos (by omega), Int.toNat_natCast]
        rfl
      · have ht : (xs.take 1024).length ≤ xs.length := List.length_take_le' _ _
        simp only
        rw [if_pos trivial, if_pos (by omega), if_neg (by rw [List.length_append]; omega), w64 (by omega) (by omega)]
        simp
    · have : xs = [] := List.eq_nil_of_length_eq_zero (by omega)
      subst this
      rw [frames_nil] at hd
      have e : b.length ≤ at' := by have := congrArg List.length hd; rw [List.length_drop] at this; simp at this; omega
      rw [List.append_nil]
      refine Ev.step (f := fun _ => some (out, 0, 0)) (fun k => ?_) (Ev.now _)
      simp only [frame_Unpack.l0]
      rw [if_neg (by omega)]
theorem unpack_frames (xs : List Int) (hx : Bytes xs) (hl : xs.length ≤ 20000) : Ev (fun k => frame_Unpack.f k (frames xs)) (xs, 0, 0) := by
  obtain ⟨_, hfl⟩ := frames_bytes _ xs (Nat.le_refl _) hx
  have h := unpack_frames_l0 (frames xs) (by omega) xs.length xs [] 0 (Nat.le_refl _) hx (by simp) (by omega) (by simp; omega)
  refine Ev.congr (fun k => ?_) h
  unfold frame_Unpack.f
  rw [if_neg (by omega)]
  rfl
end Go.Proofs.Yteljmmdbgnjflaa.PF
