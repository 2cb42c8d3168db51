/- The reference's packed form is the program's: the tokens, and their bytes. The reference's frames are the program's; the laws of Pack and of Unpack's uniqueness. -/
import Derived.Test.YteljmmdbgnjflaaHPureG
import Derived.Test.YteljmmdbgnjflaaPFx20
import Derived.Test.YteljmmdbgnjflaaPFx21
set_option linter.unusedVariables false
set_option linter.unusedSimpArgs false
namespace Go.Proofs.Yteljmmdbgnjflaa.PF
open Go.RowKit Go.Proofs.YteljmmdbgnjflaaW.PrintWords Go.Proofs.YteljmmdbgnjflaaW.PrintLast Go.Proofs.YteljmmdbgnjflaaW.PrintMore Go.Proofs.Yteljmmdbgnjflaa.H

theorem repetition_l0 (xs : List Int) (a f : Nat) (hf : f < a) (ha : a ≤ xs.length) (hl : xs.length ≤ 1099511627776) : ∀ (d n : Nat), n + d = 131 →
    Ev (fun k => linkhouseref2_repetition.l0 k xs a ((a : Int) - f) n) ((mrun xs f a d n : Nat) : Int) := by
  intro d
  induction d with
  | zero =>
    intro n hn
    refine Ev.step (f := fun _ => some (n : Int)) (fun k => ?_) (Ev.now _)
    simp only [linkhouseref2_repetition.l0]
    rw [if_neg (by omega)]
  | succ d ih =>
    intro n hn
    have e1 : wrap64 ((a : Int) + n) = ((a + n : Nat) : Int) := by rw [w64 (by omega) (by omega)]; simp
    have e2 : wrap64 (((a + n : Nat) : Int) - ((a : Int) - f)) = ((f + n : Nat) : Int) := by rw [w64 (by omega) (by omega)]; omega
    have e3 : wrap64 ((n : Int) + 1) = ((n + 1 : Nat) : Int) := by rw [w64 (by omega) (by omega)]; simp
    unfold mrun
    by_cases hlt : a + n < xs.length
    · by_cases he : xs.getD (f + n) 0 = xs.getD (a + n) 0
      · rw [if_pos ⟨hlt, he⟩]
        refine Ev.step (fun k => ?_) (ih (n + 1) (by omega))
        simp only [linkhouseref2_repetition.l0]
        rw [e1, e2, e3, rd_nat, rd_nat, if_pos (by omega), if_pos (by omega), if_pos (by omega), if_pos (by omega), if_pos (by omega), if_pos he.symm]
      · rw [if_neg (fun hh => he hh.2)]
        refine Ev.step (f := fun _ => some (n : Int)) (fun k => ?_) (Ev.now _)
        simp only [linkhouseref2_repetition.l0]
        rw [e1, e2, rd_nat, rd_nat, if_pos (by omega), if_pos (by omega), if_pos (by omega), if_pos (by omega), if_pos (by omega), if_neg (fun h => he h.symm)]
    · rw [if_neg (by omega)]
      refine Ev.step (f := fun _ => some (n : Int)) (fun k => ?_) (Ev.now _)
      simp only [linkhouseref2_repetition.l0]
      rw [e1, if_pos (by omega), if_neg (by omega)]

/-! ### the tokens -/
/-- The tokens from a on: length and distance, 1 and 0 for a literal. -/
def toks (xs : List Int) : Nat → Nat → List (Int × Int)
  | 0, _ => []
  | f + 1, a => if a < xs.length then (if (best xs a).1 < 4 then (1, 0) :: toks xs f (a + 1) else (((best xs a).1 : Int), ((best xs a).2 : Int)) :: toks xs f (a + (best xs a).1)) else []
theorem compressed_l1 (xs : List Int) (a : Nat) (T : List (Int × Int)) (ha : a ≤ xs.length) (hl : xs.length ≤ 1099511627776) (hT : T.length ≤ 1099511627776) {r : List Int} : ∀ c (b : Nat × Nat), c ≤ a → a + b.1 ≤ xs.length →
    Ev (fun k => if (bestFrom xs a c b).1 < 4 then linkhouseref2_Compressed.l0 k xs ((T ++ [(1, 0)]).map Prod.fst) ((T ++ [(1, 0)]).map Prod.snd) ((a : Int) + 1) else linkhouseref2_Compressed.l0 k xs ((T ++ [(((bestFrom xs a c b).1 : Int), ((bestFrom xs a c b).2 : Int))]).map Prod.fst) ((T ++ [(((bestFrom xs a c b).1 : Int), ((bestFrom xs a c b).2 : Int))]).map Prod.snd) ((a : Int) + (bestFrom xs a c b).1)) r →
    Ev (fun k => linkhouseref2_Compressed.l1 k xs (T.map Prod.fst) (T.map Prod.snd) a b.1 b.2 ((a : Int) + 1 - c)) r := by
  intro c
  induction c with
  | zero =>
    intro b _ hb h
    rw [show bestFrom xs a 0 b = b from rfl] at h
    refine Ev.step (fun k => ?_) h
    simp only [linkhouseref2_Compressed.l1]
    rw [if_neg (by omega)]
    by_cases h4 : b.1 < 4
    · rw [if_pos (by omega), if_pos h4, if_pos (by rw [List.length_map]; omega), if_pos (by rw [List.length_map]; omega), w64 (by omega) (by omega), List.map_append, List.map_append]
      rfl
    · rw [if_neg (by omega), if_neg h4, if_pos (by rw [List.length_map]; omega), if_pos (by rw [List.length_map]; omega), w64 (by omega) (by omega), List.map_append, List.map_append]
      rfl
  | succ c ih =>
    intro b hc hb h
    have hm : Ev (fun k => linkhouseref2_repetition.f k xs a ((a : Int) - c)) ((mlen xs c a : Nat) : Int) := repetition_l0 xs a c (by omega) ha hl 131 0 (by omega)
    have hin := mrun_in xs c a 131 0 (by omega)
    unfold bestFrom at h
    refine Ev.step (f := fun k => (linkhouseref2_repetition.f k xs a ((a : Int) - c)).bind fun t193 => (if t193 > (b.1 : Int) then (linkhouseref2_Compressed.l1 k xs (T.map Prod.fst) (T.map Prod.snd) a t193 ((a : Int) - c) ((a : Int) + 1 - c)) else (linkhouseref2_Compressed.l1 k xs (T.map Prod.fst) (T.map Prod.snd) a b.1 b.2 ((a : Int) + 1 - c)))) (fun k => ?_) (Ev.bind hm ?_)
    · simp only [linkhouseref2_Compressed.l1]
      rw [if_pos (by omega), show (a : Int) + 1 - (c + 1 : Nat) = (a : Int) - c by omega, w64 (v := (a : Int) - c + 1) (by omega) (by omega), show (a : Int) - c + 1 = (a : Int) + 1 - c by omega]
    · by_cases hlt : b.1 < mlen xs c a
      · rw [if_pos hlt] at h
        refine Ev.congr (fun k => ?_) (ih (mlen xs c a, a - c) (by omega) (by unfold mlen; simpa using hin) h)
        rw [if_pos (by omega), show ((a - c : Nat) : Int) = (a : Int) - c by omega]
      · rw [if_neg hlt] at h
        refine Ev.congr (fun k => ?_) (ih b (by omega) hb h)
        rw [if_neg (by omega)]

theorem compressed_l0 (xs : List Int) (hl : xs.length ≤ 1048576) {r : List Int} : ∀ f a (T : List (Int × Int)), a ≤ xs.length → xs.length - a ≤ f → T.length ≤ a →
    Ev (fun k => linkhouseref2_Compressed.l2 k xs ((T ++ toks xs f a).map Prod.fst) ((T ++ toks xs f a).map Prod.snd) [] 0 0) r → Ev (fun k => linkhouseref2_Compressed.l0 k xs (T.map Prod.fst) (T.map Prod.snd) a) r := by
  intro f
  induction f with
  | zero =>
    intro a T ha hf hT h
    refine Ev.step (fun k => ?_) h
    simp only [linkhouseref2_Compressed.l0, toks]
    rw [if_neg (by omega), List.append_nil]
  | succ f ih =>
    intro a T ha hf hT h
    unfold toks at h
    by_cases hlt : a < xs.length
    · rw [if_pos hlt] at h
      obtain ⟨b1, b2, b3⟩ := best_le xs a ha
      have hstep : ∀ k, linkhouseref2_Compressed.l0 (k + 1) xs (T.map Prod.fst) (T.map Prod.snd) a = linkhouseref2_Compressed.l1 k xs (T.map Prod.fst) (T.map Prod.snd) a ((0, 0) : Nat × Nat).1 ((0, 0) : Nat × Nat).2 ((a : Int) + 1 - a) := fun k => by
        simp only [linkhouseref2_Compressed.l0]
        rw [if_pos (by omega), show (a : Int) + 1 - a = 1 by omega]
        rfl
      refine Ev.step hstep (compressed_l1 xs a T ha (by omega) (by omega) a (0, 0) (Nat.le_refl _) (by simpa using ha) ?_)
      change Ev (fun k => if (best xs a).1 < 4 then linkhouseref2_Compressed.l0 k xs ((T ++ [(1, 0)]).map Prod.fst) ((T ++ [(1, 0)]).map Prod.snd) ((a : Int) + 1) else linkhouseref2_Compressed.l0 k xs ((T ++ [(((best xs a).1 : Int), ((best xs a).2 : Int))]).map Prod.fst) ((T ++ [(((best xs a).1 : Int), ((best xs a).2 : Int))]).map Prod.snd) ((a : Int) + (best xs a).1)) r
      by_cases h4 : (best xs a).1 < 4
      · rw [if_pos h4] at h
        refine Ev.congr (fun k => if_pos h4) (ih (a + 1) (T ++ [(1, 0)]) (by omega) (by omega) (by simp; omega) ?_)
        rw [List.append_assoc]
        exact h
      · rw [if_neg h4] at h
        refine Ev.congr (fun k => if_neg h4) ?_
        rw [show (a : Int) + (best xs a).1 = ((a + (best xs a).1 : Nat) : Int) by omega]
        refine ih (a + (best xs a).1) (T ++ [(((best xs a).1 : Int), ((best xs a).2 : Int))]) (by omega) (by omega) (by simp; omega) ?_
        rw [List.append_assoc]
        exact h
    · rw [if_neg hlt] at h
      refine Ev.step (fun k => ?_) h
      simp only [linkhouseref2_Compressed.l0]
      rw [if_neg (by omega), List.append_nil]

/-! ### their bytes -/
theorem rd_fst (T : List (Int × Int)) (i : Nat) : rd (T.map Prod.fst) i = (T.getD i (0, 0)).1 := by
  rw [rd_nat]
  by_cases h : i < T.length
  · simp [h]
  · simp [List.getD_eq_getElem?_getD, List.getElem?_eq_none (by omega : T.length ≤ i)]
theorem rd_snd (T : List (Int × Int)) (i : Nat) : rd (T.map Prod.snd) i = (T.getD i (0, 0)).2 := by
  rw [rd_nat]
  by_cases h : i < T.length
  · simp [h]
  · simp [List.getD_eq_getElem?_getD, List.getElem?_eq_none (by omega : T.length ≤ i)]

/-- The count of the literals: from m on to n. -/
theorem compressed_l3 (xs : List Int) (T : List (Int × Int)) (out : List Int) (p i n : Nat) (hl : xs.length ≤ 1048576) (hT : T.length ≤ 1048576) (ho : out.length ≤ 1099511627776) (hn1 : 1 ≤ n) (hn : n ≤ 128) (hi : i + n ≤ T.length) (hp : p + n ≤ xs.length)
    (hz : ∀ j, j < n → (T.getD (i + j) (0, 0)).2 = 0) (hs : n = 128 ∨ i + n = T.length ∨ (T.getD (i + n) (0, 0)).2 ≠ 0) {r : List Int}
    (h : Ev (fun k => linkhouseref2_Compressed.l2 k xs (T.map Prod.fst) (T.map Prod.snd) (out ++ runOf ((xs.drop p).take n)) ((p + n : Nat) : Int) ((i + n : Nat) : Int)) r) : ∀ c m, m + c = n →
    Ev (fun k => linkhouseref2_Compressed.l3 k xs (T.map Prod.fst) (T.map Prod.snd) out p i m) r := by
  have hrun : runOf ((xs.drop p).take n) = [((n : Int) - 1) % 256] ++ (xs.take (p + n)).drop p := by
    have e1 : ((xs.drop p).take n).length = n := by rw [List.length_take, List.length_drop]; omega
    have e2 : (xs.take (p + n)).drop p = (xs.drop p).take n := by rw [List.drop_take]; congr 1; omega
    unfold runOf
    rw [e1, e2]
    rfl
  have fin : ∀ k, (if out.length < 140737488355328 then ((some (out ++ [(wrap64 ((n : Int) - 1)) % 256] : List Int)).bind fun y232 => (if 0 ≤ (p : Int) then (if (p : Int) ≤ (wrap64 ((p : Int) + n)) then (if (wrap64 ((p : Int) + n)) ≤ (xs.length : Int) then (if y232.length + ((xs.take ((wrap64 ((p : Int) + n)) : Int).toNat).drop (p : Int).toNat).length < 140737488355328 then (linkhouseref2_Compressed.l2 k xs (T.map Prod.fst) (T.map Prod.snd) (y232 ++ ((xs.take ((wrap64 ((p : Int) + n)) : Int).toNat).drop (p : Int).toNat)) (wrap64 ((p : Int) + n)) (wrap64 ((i : Int) + n))) else (none)) else (none)) else (none)) else (none))) else (none)) = linkhouseref2_Compressed.l2 k xs (T.map Prod.fst) (T.map Prod.snd) (out ++ runOf ((xs.drop p).take n)) ((p + n : Nat) : Int) ((i + n : Nat) : Int) := fun k => by
    have e1 : wrap64 ((p : Int) + n) = ((p + n : Nat) : Int) := by rw [w64 (by omega) (by omega)]; simp
    have e2 : wrap64 ((i : Int) + n) = ((i + n : Nat) : Int) := by rw [w64 (by omega) (by omega)]; simp
    have e3 : wrap64 ((n : Int) - 1) = (n : Int) - 1 := w64 (by omega) (by omega)
    rw [if_pos (by omega), e1, e2, e3]
    simp only [Option.bind_some, Int.toNat_natCast]
    rw [if_pos (by omega), if_pos (by omega), if_pos (by omega), if_pos (by simp only [List.length_append, List.length_drop, List.length_take, List.length_cons, List.length_nil]; omega), hrun, List.append_assoc]
  intro c
  induction c with
  | zero =>
    intro m hm
    have hm : m = n := by omega
    subst hm
    have e2 : wrap64 ((i : Int) + m) = ((i + m : Nat) : Int) := by rw [w64 (by omega) (by omega)]; simp
    refine Ev.step (fun k => ?_) h
    rw [← fin k]
    simp only [linkhouseref2_Compressed.l3]
    by_cases hend : i + m < T.length
    · rw [e2, if_pos (by rw [List.length_map]; omega), if_pos (by omega), if_pos (by rw [List.length_map]; omega), rd_snd]
      by_cases hzz : (T.getD (i + m) (0, 0)).2 = 0
      · have h128 : m = 128 := by
          rcases hs with e | e | e
          · exact e
          · omega
          · exact absurd hzz e
        rw [if_pos hzz, if_neg (by omega)]
      · rw [if_neg hzz]
    · rw [e2, if_neg (by rw [List.length_map]; omega)]
  | succ c ih =>
    intro m hm
    have e2 : wrap64 ((i : Int) + m) = ((i + m : Nat) : Int) := by rw [w64 (by omega) (by omega)]; simp
    have e3 : wrap64 ((m : Int) + 1) = ((m + 1 : Nat) : Int) := by rw [w64 (by omega) (by omega)]; simp
    refine Ev.step (fun k => ?_) (ih (m + 1) (by omega))
    simp only [linkhouseref2_Compressed.l3]
    rw [e2, e3, if_pos (by rw [List.length_map]; omega), if_pos (by omega), if_pos (by rw [List.length_map]; omega), rd_snd, if_pos (hz m (by omega)), if_pos (by omega)]

theorem pieces_head (xs : List Int) (m k : Nat) : pieces xs m (k + 1) = xs.take m :: pieces (xs.drop m) m k := pieces_cons xs m k
theorem flushed_nil (outs : List Int) : flushed outs [] = outs := by simp [flushed, runs, pieces]
theorem flushed_cons (outs lits : List Int) (h : 1 ≤ lits.length) : flushed outs lits = flushed (outs ++ runOf (lits.take 128)) (lits.drop 128) := by
  unfold flushed
  have : (lits.length + 127) / 128 = ((lits.drop 128).length + 127) / 128 + 1 := by rw [List.length_drop]; omega
  rw [this, pieces_cons, List.append_assoc]
  rfl

/-- The runs of n literals. -/
theorem compressed_run (xs : List Int) (T : List (Int × Int)) (hl : xs.length ≤ 1048576) (hT : T.length ≤ 1048576) {r : List Int} : ∀ c n (out : List Int) (p i : Nat), n ≤ c → out.length + 2 * n ≤ 1099511627776 → i + n ≤ T.length → p + n ≤ xs.length →
    (∀ j, j < n → (T.getD (i + j) (0, 0)).2 = 0) → (i + n = T.length ∨ (T.getD (i + n) (0, 0)).2 ≠ 0) →
    Ev (fun k => linkhouseref2_Compressed.l2 k xs (T.map Prod.fst) (T.map Prod.snd) (flushed out ((xs.drop p).take n)) ((p + n : Nat) : Int) ((i + n : Nat) : Int)) r →
    Ev (fun k => linkhouseref2_Compressed.l2 k xs (T.map Prod.fst) (T.map Prod.snd) out p i) r := by
  intro c
  induction c with
  | zero =>
    intro n out p i hn _ _ _ _ _ h
    have hn : n = 0 := by omega
    subst hn
    rw [List.take_zero, flushed_nil] at h
    exact h
  | succ c ih =>
    intro n out p i hn ho hi hp hz hs h
    by_cases h0 : n = 0
    · subst h0
      rw [List.take_zero, flushed_nil] at h
      exact h
    · have hll : ((xs.drop p).take n).length = n := by rw [List.length_take, List.length_drop]; omega
      rw [flushed_cons _ _ (by omega)] at h
      have key : ∀ m, m = min n 128 → Ev (fun k => linkhouseref2_Compressed.l3 k xs (T.map Prod.fst) (T.map Prod.snd) out p i (0 : Nat)) r := by
        intro m hm
        have hrl : (runOf ((xs.drop p).take m)).length = m + 1 := by rw [runOf_length, List.length_take, List.length_drop]; omega
        refine compressed_l3 xs T out p i m hl hT (by omega) (by omega) (by omega) (by omega) (by omega) (fun j hj => hz j (by omega)) ?_ ?_ m 0 (by omega)
        · by_cases hh : m = 128
          · exact .inl hh
          · have : m = n := by omega
            rw [this]
            exact .inr hs
        · refine ih (n - m) _ (p + m) (i + m) (by omega) (by rw [List.length_append]; omega) (by omega) (by omega) (fun j hj => by rw [Nat.add_assoc]; exact hz (m + j) (by omega)) (by
            rw [show i + m + (n - m) = i + n by omega]; exact hs) ?_
          rw [show p + m + (n - m) = p + n by omega, show i + m + (n - m) = i + n by omega]
          have e1 : ((xs.drop p).take n).take 128 = (xs.drop p).take m := by rw [List.take_take, hm, Nat.min_comm]
          have e2 : ((xs.drop p).take n).drop 128 = (xs.drop (p + m)).take (n - m) := by
            rw [List.drop_take, List.drop_drop]
            by_cases hh : n ≤ 128
            · have : n - 128 = 0 := by omega
              rw [this, List.take_zero]
              have : n - m = 0 := by omega
              rw [this, List.take_zero]
            · have : m = 128 := by omega
              rw [this]
          rw [← e1, ← e2]
          exact h
      have hz0 := hz 0 (by omega)
      rw [Nat.add_zero] at hz0
      refine Ev.step (fun k => ?_) (key _ rfl)
      simp only [linkhouseref2_Compressed.l2]
      rw [if_pos (by rw [List.length_map]; omega), if_pos (by omega), if_pos (by rw [List.length_map]; omega), rd_snd, if_neg (by omega)]
      rfl

theorem bestFrom_pos (xs : List Int) (a : Nat) : ∀ c b, c ≤ a → (1 ≤ b.1 → 1 ≤ b.2) → 1 ≤ (bestFrom xs a c b).1 → 1 ≤ (bestFrom xs a c b).2 := by
  intro c
  induction c with
  | zero => intro b _ h; exact h
  | succ c ih =>
    intro b hc h
    unfold bestFrom
    split
    · exact ih _ (by omega) (fun _ => by simp; omega)
    · exact ih _ (by omega) h

theorem flushed_le2 (outs lits : List Int) : (flushed outs lits).length ≤ outs.length + 2 * lits.length := by
  rw [flushed_length]
  omega

theorem compressed_l2 (xs : List Int) (T : List (Int × Int)) (hl : xs.length ≤ 1048576) (hT : T.length ≤ 1048576) : ∀ f a (outs : List Int) (p i n : Nat), a ≤ xs.length → xs.length - a ≤ f → p + n = a → outs.length ≤ 200 * p →
    T.drop i = List.replicate n (1, 0) ++ toks xs f a → Ev (fun k => linkhouseref2_Compressed.l2 k xs (T.map Prod.fst) (T.map Prod.snd) outs p i) (compL xs f ((xs.drop p).take n) outs a) := by
  have pick : ∀ (i n : Nat) (R : List (Int × Int)), T.drop i = List.replicate n (1, 0) ++ R → i ≤ T.length → (i + n + R.length = T.length ∧ (∀ j, j < n → (T.getD (i + j) (0, 0)).2 = 0) ∧ ∀ x R', R = x :: R' → T.getD (i + n) (0, 0) = x ∧ T.drop (i + n + 1) = R') := by
    intro i n R h hi
    have hlen := congrArg List.length h
    rw [List.length_drop, List.length_append, List.length_replicate] at hlen
    have hg : ∀ j, T.getD (i + j) (0, 0) = (List.replicate n (1, 0) ++ R).getD j (0, 0) := fun j => by
      rw [← h]; simp
    refine ⟨by omega, fun j hj => ?_, fun x R' hR => ?_⟩
    · rw [hg, List.getD_eq_getElem?_getD, List.getElem?_append_left (by simpa using hj)]
      simp [hj]
    · subst hR
      refine ⟨?_, ?_⟩
      · rw [hg, List.getD_eq_getElem?_getD, List.getElem?_append_right (by simp)]
        simp
      · rw [Nat.add_assoc, ← List.drop_drop, h, show n + 1 = (List.replicate n ((1 : Int), (0 : Int))).length + 1 by simp, ← List.drop_drop, List.drop_left]
        rfl
  have done : ∀ f a (outs : List Int) (p i n : Nat), ¬ a < xs.length → a ≤ xs.length → p + n = a → outs.length ≤ 200 * p → i ≤ T.length → T.drop i = List.replicate n (1, 0) → compL xs f ((xs.drop p).take n) outs a = flushed outs ((xs.drop p).take n) → Ev (fun k => linkhouseref2_Compressed.l2 k xs (T.map Prod.fst) (T.map Prod.snd) outs p i) (compL xs f ((xs.drop p).take n) outs a) := by
    intro f a outs p i n hlt ha hp ho hiT h hc
    rw [hc]
    obtain ⟨p1, p2, _⟩ := pick i n [] (by rw [List.append_nil]; exact h) hiT
    rw [List.length_nil] at p1
    refine compressed_run xs T hl hT n n outs p i (Nat.le_refl _) (by omega) (by omega) (by omega) p2 (.inl (by omega)) ?_
    refine Ev.step (f := fun _ => some (flushed outs ((xs.drop p).take n))) (fun k => ?_) (Ev.now _)
    simp only [linkhouseref2_Compressed.l2]
    rw [if_neg (by rw [List.length_map]; omega)]
  intro f
  induction f with
  | zero =>
    intro a outs p i n ha hf hp ho h
    by_cases hiT : i ≤ T.length
    · exact done 0 a outs p i n (by omega) ha hp ho hiT (by rw [h]; simp [toks]) rfl
    · rw [List.drop_eq_nil_of_le (by omega)] at h
      have hn := congrArg List.length h
      simp [toks] at hn
      subst hn
      rw [List.take_zero]
      refine Ev.step (f := fun _ => some outs) (fun k => ?_) (by rw [show compL xs 0 [] outs a = flushed outs [] from rfl, flushed_nil]; exact Ev.now _)
      simp only [linkhouseref2_Compressed.l2]
      rw [if_neg (by rw [List.length_map]; omega)]
  | succ f ih =>
    intro a outs p i n ha hf hp ho h
    by_cases hlt : a < xs.length
    · unfold toks at h
      unfold compL
      rw [if_pos hlt] at h ⊢
      obtain ⟨b1, b2, b3⟩ := best_le xs a ha
      by_cases h4 : (best xs a).1 < 4
      · rw [if_pos h4] at h ⊢
        have e1 : (xs.drop p).take n ++ [xs.getD a 0] = (xs.drop p).take (n + 1) := by
          rw [List.take_add_one, List.getElem?_drop, hp, List.getElem?_eq_getElem hlt]
          simp [hlt]
        rw [e1]
        refine ih (a + 1) outs p i (n + 1) (by omega) (by omega) (by omega) ho ?_
        rw [h, List.replicate_succ', List.append_assoc]
        rfl
      · rw [if_neg h4] at h ⊢
        have hiT : i ≤ T.length := by
          refine Decidable.byContradiction fun hc => ?_
          rw [List.drop_eq_nil_of_le (by omega)] at h
          have hn := congrArg List.length h
          simp at hn
        obtain ⟨p1, p2, p3⟩ := pick i n _ h hiT
        obtain ⟨p4, p5⟩ := p3 _ _ rfl
        rw [List.length_cons] at p1
        have hpos : 1 ≤ (best xs a).2 := bestFrom_pos xs a a (0, 0) (Nat.le_refl _) (by simp) (by show 1 ≤ (best xs a).1; omega)
        have hfl := flushed_le2 outs ((xs.drop p).take n)
        have hfl2 : ((xs.drop p).take n).length = n := by rw [List.length_take, List.length_drop]; omega
        refine compressed_run xs T hl hT n n outs p i (Nat.le_refl _) (by omega) (by omega) (by omega) p2 (.inr (by rw [p4]; simp only; omega)) ?_
        have hnext := ih (a + (best xs a).1) (flushed outs ((xs.drop p).take n) ++ [124 + ((best xs a).1 : Int), ((best xs a).2 : Int) % 256, ((best xs a).2 : Int) / 256 % 256]) (a + (best xs a).1) (i + n + 1) 0 (by omega) (by omega) (by omega) (by simp only [List.length_append, List.length_cons, List.length_nil]; omega) p5
        rw [List.take_zero] at hnext
        refine Ev.step (fun k => ?_) hnext
        simp only [linkhouseref2_Compressed.l2]
        have e0 : Int.tdiv ((best xs a).2 : Int) 256 = ((best xs a).2 : Int) / 256 := Int.tdiv_eq_ediv_of_nonneg (by omega)
        have e1 : Int.tmod ((best xs a).2 : Int) 256 = ((best xs a).2 : Int) % 256 := Int.tmod_eq_emod_of_nonneg (by omega)
        rw [if_pos (by rw [List.length_map]; omega), if_pos (by omega), if_pos (by rw [List.length_map]; omega), rd_snd, rd_fst, p4, if_pos (by simp only; omega)]
        simp only [Option.bind_some, e0, e1]
        rw [if_pos (by simp only [List.length_cons, List.length_nil]; omega), hp, w64 (v := (a : Int) + (best xs a).1) (by omega) (by omega), w64 (v := ((i + n : Nat) : Int) + 1) (by omega) (by omega), w64 (v := 124 + ((best xs a).1 : Int)) (by omega) (by omega), w64 (v := ((best xs a).2 : Int) / 256) (by omega) (by omega), Int.emod_eq_of_lt (a := 124 + ((best xs a).1 : Int)) (by omega) (by omega), Int.emod_emod]
        simp
    · have e : toks xs (f + 1) a = [] := by unfold toks; rw [if_neg hlt]
      have e2 : compL xs (f + 1) ((xs.drop p).take n) outs a = flushed outs ((xs.drop p).take n) := by
        show (if a < xs.length then _ else _) = _
        rw [if_neg hlt]
      rw [e, List.append_nil] at h
      by_cases hiT : i ≤ T.length
      · exact done (f + 1) a outs p i n hlt ha hp ho hiT h e2
      · rw [List.drop_eq_nil_of_le (by omega)] at h
        have hn := congrArg List.length h
        simp at hn
        subst hn
        rw [List.take_zero] at e2 ⊢
        rw [e2, flushed_nil]
        refine Ev.step (f := fun _ => some outs) (fun k => ?_) (Ev.now _)
        simp only [linkhouseref2_Compressed.l2]
        rw [if_neg (by rw [List.length_map]; omega)]

theorem toks_length (xs : List Int) : ∀ f a, (toks xs f a).length ≤ f := by
  intro f
  induction f with
  | zero => intro a; simp [toks]
  | succ f ih =>
    intro a
    unfold toks
    split
    · split
      · have := ih (a + 1); simp; omega
      · have := ih (a + (best xs a).1); simp; omega
    · simp
theorem compressed_ev (xs : List Int) (hl : xs.length ≤ 1048576) : Ev (fun k => linkhouseref2_Compressed.f k xs) (comp xs) := by
  have ht := toks_length xs xs.length 0
  exact compressed_l0 xs hl xs.length 0 [] (by omega) (by omega) (by simp) (compressed_l2 xs (toks xs xs.length 0) hl (by omega) xs.length 0 [] 0 0 0 (by omega) (by omega) rfl (by simp) (by simp))
end Go.Proofs.Yteljmmdbgnjflaa.PF

namespace Go.Proofs.Yteljmmdbgnjflaa.PF
open Go.RowKit Go.Proofs.YteljmmdbgnjflaaW.PrintWords Go.Proofs.YteljmmdbgnjflaaW.PrintLast Go.Proofs.YteljmmdbgnjflaaW.PrintMore Go.Proofs.Yteljmmdbgnjflaa.H

theorem ref_head (c s : Int) (m : Nat) (hs : 0 ≤ s ∧ s < 4294967296) (hc : 0 ≤ c ∧ c < 65536) (hm : m < 65536) :
    ([(m : Int) % 256, (wrap64 ((m : Int) / 256)) % 256, c % 256, (wrap64 (c / 256)) % 256] : List Int) ++ [(Int.tmod s 256) % 256, (Int.tmod (wrap64 (Int.tdiv s 256)) 256) % 256, (Int.tmod (wrap64 (Int.tdiv s 65536)) 256) % 256, (wrap64 (Int.tdiv s 16777216)) % 256] = le 2 m ++ le 2 c ++ le 4 s := by
  rw [le2, le2, le4]
  have e0 : Int.tdiv s 256 = s / 256 := Int.tdiv_eq_ediv_of_nonneg (by omega)
  have e1 : Int.tdiv s 65536 = s / 65536 := Int.tdiv_eq_ediv_of_nonneg (by omega)
  have e2 : Int.tdiv s 16777216 = s / 16777216 := Int.tdiv_eq_ediv_of_nonneg (by omega)
  have e3 : Int.tmod s 256 = s % 256 := Int.tmod_eq_emod_of_nonneg (by omega)
  have e4 : Int.tmod (s / 256) 256 = s / 256 % 256 := Int.tmod_eq_emod_of_nonneg (by omega)
  have e5 : Int.tmod (s / 65536) 256 = s / 65536 % 256 := Int.tmod_eq_emod_of_nonneg (by omega)
  rw [e0, e1, e2, e3, w64 (v := (m : Int) / 256) (by omega) (by omega), w64 (v := c / 256) (by omega) (by omega), w64 (v := s / 256) (by omega) (by omega), w64 (v := s / 65536) (by omega) (by omega), w64 (v := s / 16777216) (by omega) (by omega), e4, e5, Int.emod_emod, Int.emod_emod, Int.emod_emod]
  rfl

/-- What stands behind the cut of a piece. -/
def refTail (k : Nat) (x0 x3 : List Int) (x4 : Int) (p : List Int) : Option (List Int) :=
  (linkhouseref2_Compressed.f k p).bind fun t240 => ((linkhouseref2_Checksum.f k p).bind fun t243 => ((some (([(p.length : Int) % 256, (wrap64 ((p.length : Int) / 256)) % 256, (t240.length : Int) % 256, (wrap64 ((t240.length : Int) / 256)) % 256] : List Int) : List Int)).bind fun y244 => (if x3.length + y244.length < 140737488355328 then ((some (x3 ++ y244 : List Int)).bind fun y247 => ((some (([(Int.tmod t243 256) % 256, (Int.tmod (wrap64 (Int.tdiv t243 256)) 256) % 256, (Int.tmod (wrap64 (Int.tdiv t243 65536)) 256) % 256, (wrap64 (Int.tdiv t243 16777216)) % 256] : List Int) : List Int)).bind fun y250 => (if y247.length + y250.length < 140737488355328 then ((some (y247 ++ y250 : List Int)).bind fun y253 => (if y253.length + t240.length < 140737488355328 then (linkhouseref2_Frames.l0 k x0 (y253 ++ t240) (wrap64 (x4 + 1024))) else (none))) else (none)))) else (none))))
theorem refTail_ev (x0 x3 : List Int) (x4 : Nat) (p : List Int) (hp : Bytes p) (hl : p.length ≤ 1024) (ho : x3.length ≤ 1099511627776) (h4 : x4 ≤ 1099511627776) {r : List Int} (h : Ev (fun k => linkhouseref2_Frames.l0 k x0 (x3 ++ frame1 p) ((x4 + 1024 : Nat) : Int)) r) : Ev (fun k => refTail k x0 x3 x4 p) r := by
  have hc := comp_length p
  have hs := sum_range p hp
  unfold refTail
  refine Ev.bind (compressed_ev p (by omega)) (Ev.bind (checksum_ev p hp (by omega)) (Ev.congr (fun k => ?_) h))
  simp only [Option.bind_some]
  rw [if_pos (by simp only [List.length_cons, List.length_nil]; omega), if_pos (by simp only [List.length_append, List.length_cons, List.length_nil]; omega), if_pos (by simp only [List.length_append, List.length_cons, List.length_nil]; omega)]
  rw [List.append_assoc x3, ref_head ((comp p).length : Int) (sum p) p.length hs (by omega) (by omega), List.append_assoc, w64 (by omega) (by omega)]
  rfl

theorem frames_ref_l0 (xs : List Int) (hx : Bytes xs) (hl : xs.length ≤ 100000) : ∀ c (at' : Nat) (out : List Int), xs.length - at' ≤ c → at' ≤ 200000 → out.length ≤ 1000000 + 10 * at' →
    Ev (fun k => linkhouseref2_Frames.l0 k xs out (at' : Int)) (out ++ frames (xs.drop at')) := by
  intro c
  induction c with
  | zero =>
    intro at' out hc ha ho
    rw [List.drop_eq_nil_of_le (by omega), frames_nil, List.append_nil]
    refine Ev.step (f := fun _ => some out) (fun k => ?_) (Ev.now _)
    simp only [linkhouseref2_Frames.l0]
    rw [if_neg (by omega)]
  | succ c ih =>
    intro at' out hc ha ho
    by_cases hlt : at' < xs.length
    · have hdl : (xs.drop at').length = xs.length - at' := List.length_drop
      have hpl := comp_length ((xs.drop at').take 1024)
      have htl : ((xs.drop at').take 1024).length ≤ 1024 := List.length_take_le _ _
      have hnext := ih (at' + 1024) (out ++ frame1 ((xs.drop at').take 1024)) (by omega) (by omega) (by rw [List.length_append, frame1_length]; omega)
      rw [List.append_assoc, ← List.drop_drop, ← frames_cons (xs.drop at') (by omega)] at hnext
      refine Ev.step (fun k => ?_) (refTail_ev xs out at' _ ((hx.drop at').take 1024) htl (by omega) (by omega) hnext)
      simp only [linkhouseref2_Frames.l0]
      rw [if_pos (by omega), w64 (v := (at' : Int) + 1024) (by omega) (by omega)]
      have e0 : (at' : Int) + 1024 = ((at' + 1024 : Nat) : Int) := by omega
      by_cases hbig : (at' : Int) + 1024 > (xs.length : Int)
      · have ep : (xs.take ((xs.length : Int) : Int).toNat).drop (at' : Int).toNat = (xs.drop at').take 1024 := by
          rw [Int.toNat_natCast, Int.toNat_natCast, List.take_length, List.take_of_length_le (by omega)]
        rw [if_pos hbig, if_pos (by omega), if_pos (by omega), if_pos (by omega), ep]
        unfold refTail
        rw [w64 (v := (at' : Int) + 1024) (by omega) (by omega)]
      · have ep : (xs.take ((at' + 1024 : Nat) : Int).toNat).drop (at' : Int).toNat = (xs.drop at').take 1024 := by
          rw [Int.toNat_natCast, Int.toNat_natCast, List.drop_take]
          congr 1
          omega
        rw [if_neg hbig, if_pos (by omega), if_pos (by omega), if_pos (by omega), e0, ep]
        unfold refTail
        rw [w64 (v := (at' : Int) + 1024) (by omega) (by omega), e0]
    · rw [List.drop_eq_nil_of_le (by omega), frames_nil, List.append_nil]
      refine Ev.step (f := fun _ => some out) (fun k => ?_) (Ev.now _)
      simp only [linkhouseref2_Frames.l0]
      rw [if_neg (by omega)]
theorem frames_ref_ev (xs : List Int) (hx : Bytes xs) (hl : xs.length ≤ 100000) : Ev (fun k => linkhouseref2_Frames.f k xs) (frames xs) :=
  frames_ref_l0 xs hx hl xs.length 0 [] (by omega) (by omega) (by simp)

end Go.Proofs.Yteljmmdbgnjflaa.PF
