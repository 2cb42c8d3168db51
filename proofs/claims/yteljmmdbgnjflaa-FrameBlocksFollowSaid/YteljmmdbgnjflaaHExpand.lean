/- Bytes: what frame.get reads back, that equal byte strings are equal lists, and what frame.expand gives of a packed form. frame.expand: it gives an answer at every list of bytes, and gives the data back at their packed form. frame.expand gives the data back at their packed form. -/
import Derived.Test.YteljmmdbgnjflaaHPacked
import Derived.Test.YteljmmdbgnjflaaPFx8
import Derived.Test.YteljmmdbgnjflaaPFx10
import Derived.Test.YteljmmdbgnjflaaPFx11
import Derived.Laws.BitsLemmas
set_option linter.unusedVariables false
set_option linter.unusedSimpArgs false
namespace Go.Proofs.Yteljmmdbgnjflaa.PF
open Go.RowKit Go.Proofs.YteljmmdbgnjflaaW.PrintWords Go.Proofs.YteljmmdbgnjflaaW.PrintLast Go.Proofs.YteljmmdbgnjflaaW.PrintMore Go.Proofs.Yteljmmdbgnjflaa.H

def Bytes (xs : List Int) : Prop := ∀ x ∈ xs, 0 ≤ x ∧ x < 256
theorem Bytes.nil : Bytes [] := fun x h => by simp at h
theorem Bytes.append {a b : List Int} (h : Bytes a) (k : Bytes b) : Bytes (a ++ b) := fun x hx => by
  rcases List.mem_append.1 hx with hx | hx
  · exact h x hx
  · exact k x hx
theorem Bytes.take {a : List Int} (h : Bytes a) (n : Nat) : Bytes (a.take n) := fun x hx => h x (List.mem_of_mem_take hx)
theorem Bytes.drop {a : List Int} (h : Bytes a) (n : Nat) : Bytes (a.drop n) := fun x hx => h x (List.mem_of_mem_drop hx)
theorem Bytes.at_ {a : List Int} (h : Bytes a) (i : Nat) : 0 ≤ a.getD i 0 ∧ a.getD i 0 < 256 := by
  by_cases hi : i < a.length
  · have : a.getD i 0 = a[i] := by simp [hi]
    rw [this]; exact h _ (List.getElem_mem hi)
  · have : a.getD i 0 = 0 := by simp [List.getD_eq_getElem?_getD, List.getElem?_eq_none (by omega : a.length ≤ i)]
    omega
theorem Bytes.le (n : Nat) (x : Int) : Bytes (le n x) := fun y hy => by
  unfold PF.le at hy
  obtain ⟨i, _, rfl⟩ := List.mem_map.1 hy
  omega

theorem strOfNums_inj {a b : List Int} (ha : Bytes a) (hb : Bytes b) (h : ((strOfNums a).toList == (strOfNums b).toList) = true) : a = b := by
  have h1 : (strOfNums a).toList = (strOfNums b).toList := by simpa using h
  have h2 : (a.map fun n => UInt8.ofNat n.toNat) = b.map fun n => UInt8.ofNat n.toNat := by
    have e : ∀ xs, (strOfNums xs).toList = xs.map fun n => UInt8.ofNat n.toNat := fun xs => by
      rw [← strOfNums_data]
      exact ByteArray.toList_eq _
    rw [← e, ← e, h1]
  have inj : ∀ (a b : List Int), Bytes a → Bytes b → (a.map fun n => UInt8.ofNat n.toNat) = (b.map fun n => UInt8.ofNat n.toNat) → a = b := by
    intro a
    induction a with
    | nil => intro b _ _ h; cases b with
      | nil => rfl
      | cons => simp at h
    | cons x a ih => intro b ha hb h; cases b with
      | nil => simp at h
      | cons y b =>
        simp only [List.map_cons, List.cons.injEq] at h
        have hx := ha x (by simp)
        have hy := hb y (by simp)
        have e1 := congrArg UInt8.toNat h.1
        simp only [UInt8.toNat_ofNat'] at e1
        have : x = y := by omega
        subst this
        rw [ih b (fun z hz => ha z (by simp [hz])) (fun z hz => hb z (by simp [hz])) h.2]
  exact inj a b ha hb h2

/-! ### get -/
theorem wraps_i64 (n : Int) (h0 : 0 ≤ n) (h1 : n < 2 ^ 62) : IntKind.i64.wrap n = n := by rw [IntKind.wrap_i64]; omega
theorem or_high (i : Nat) (x y : Int) (hx₀ : 0 ≤ x) (hx : x % 2 ^ i = 0) (hx₁ : x < 2 ^ 62) (hy₀ : 0 ≤ y) (hy : y < 2 ^ i) (hy₁ : y < 2 ^ 62) : Go.bits .or .i64 x y = x + y :=
  bits_join .i64 62 (by decide) wraps_i64 i x y hx₀ hx hx₁ hy₀ hy hy₁
theorem or_low (i : Nat) (x y : Int) (hx₀ : 0 ≤ x) (hx : x % 2 ^ i = 0) (hx₁ : x < 2 ^ 62) (hy₀ : 0 ≤ y) (hy : y < 2 ^ i) (hy₁ : y < 2 ^ 62) : Go.bits .or .i64 y x = y + x := by
  have h := or_high i x y hx₀ hx hx₁ hy₀ hy hy₁
  obtain ⟨a, rfl⟩ := Int.eq_ofNat_of_zero_le hx₀
  obtain ⟨b, rfl⟩ := Int.eq_ofNat_of_zero_le hy₀
  have ha : a < 2 ^ 62 := by omega
  have hb : b < 2 ^ 62 := by omega
  rw [(bits_nat .i64 62 (by decide) wraps_i64 a b ha hb).2] at h
  rw [(bits_nat .i64 62 (by decide) wraps_i64 b a hb ha).2, Nat.or_comm, h]
  omega
theorem shl_byte (x : Int) (i : Nat) (hi : i ≤ 3) (h0 : 0 ≤ x) (h1 : x < 256) : shl .i64 (wrap64 x) ((8 * i : Nat) : Int) = x * 2 ^ (8 * i) := by
  unfold shl
  rw [w64 (by omega) (by omega), Int.toNat_natCast]
  have hm : min (8 * i) IntKind.i64.bits = 8 * i := by show min (8 * i) 64 = 8 * i; omega
  rw [hm]
  obtain rfl | rfl | rfl | rfl : i = 0 ∨ i = 1 ∨ i = 2 ∨ i = 3 := by omega
  all_goals (refine wraps_i64 _ ?_ ?_ <;> omega)

def num2 (b : List Int) : Int := b.getD 0 0 + b.getD 1 0 * 256
def num4 (b : List Int) : Int := b.getD 0 0 + b.getD 1 0 * 256 + b.getD 2 0 * 65536 + b.getD 3 0 * 16777216

theorem get_step (b : List Int) (hb : Bytes b) (n i : Nat) (acc : Int) (hi : i < n) (hi3 : i ≤ 3) (hl : i < b.length) (h0 : 0 ≤ acc) (h1 : acc < 2 ^ (8 * i)) (k : Nat) :
    frame_get.l0 (k + 1) b acc (n : Int) (i : Int) = frame_get.l0 k b (acc + b.getD i 0 * 2 ^ (8 * i)) (n : Int) ((i + 1 : Nat) : Int) := by
  simp only [frame_get.l0]
  have hx := hb.at_ i
  have e3 : wrap64 ((i : Int) + 1) = ((i + 1 : Nat) : Int) := by rw [w64 (by omega) (by omega)]; simp
  have e4 : wrap64 (8 * (i : Int)) = ((8 * i : Nat) : Int) := by rw [w64 (by omega) (by omega)]; simp
  rw [if_pos (by omega), if_pos (by omega), if_pos (by omega), e3, e4, rd_nat, if_pos (by omega), shl_byte _ i hi3 hx.1 hx.2]
  congr 1
  obtain rfl | rfl | rfl | rfl : i = 0 ∨ i = 1 ∨ i = 2 ∨ i = 3 := by omega
  all_goals (refine or_low (8 * _) _ _ ?_ ?_ ?_ h0 h1 ?_ <;> omega)
theorem get_end (b : List Int) (n : Nat) (acc : Int) (k : Nat) : frame_get.l0 (k + 1) b acc (n : Int) (n : Int) = some acc := by
  simp only [frame_get.l0]
  rw [if_neg (by omega)]
theorem get2_ev (b : List Int) (hb : Bytes b) (hl : 2 ≤ b.length) : Ev (fun k => frame_get.f k b 2) (num2 b) := by
  refine Ev.of (k := 3) (fun k => frame_get.mono _ _ k) ?_
  unfold frame_get.f
  have h0 := hb.at_ 0
  have h1 := hb.at_ 1
  have e0 := get_step b hb 2 0 0 (by omega) (by omega) (by omega) (by omega) (by omega) 2
  have e1 := get_step b hb 2 1 (0 + b.getD 0 0 * 2 ^ (8 * 0)) (by omega) (by omega) (by omega) (by omega) (by omega) 1
  have e2 := get_end b 2 (0 + b.getD 0 0 * 2 ^ (8 * 0) + b.getD 1 0 * 2 ^ (8 * 1)) 0
  refine e0.trans (e1.trans (e2.trans ?_))
  unfold num2
  congr 1
  omega
theorem get4_ev (b : List Int) (hb : Bytes b) (hl : 4 ≤ b.length) : Ev (fun k => frame_get.f k b 4) (num4 b) := by
  refine Ev.of (k := 5) (fun k => frame_get.mono _ _ k) ?_
  unfold frame_get.f
  have h0 := hb.at_ 0
  have h1 := hb.at_ 1
  have h2 := hb.at_ 2
  have h3 := hb.at_ 3
  have e0 := get_step b hb 4 0 0 (by omega) (by omega) (by omega) (by omega) (by omega) 4
  have e1 := get_step b hb 4 1 (0 + b.getD 0 0 * 2 ^ (8 * 0)) (by omega) (by omega) (by omega) (by omega) (by omega) 3
  have e2 := get_step b hb 4 2 (0 + b.getD 0 0 * 2 ^ (8 * 0) + b.getD 1 0 * 2 ^ (8 * 1)) (by omega) (by omega) (by omega) (by omega) (by omega) 2
  have e3 := get_step b hb 4 3 (0 + b.getD 0 0 * 2 ^ (8 * 0) + b.getD 1 0 * 2 ^ (8 * 1) + b.getD 2 0 * 2 ^ (8 * 2)) (by omega) (by omega) (by omega) (by omega) (by omega) 1
  have e4 := get_end b 4 (0 + b.getD 0 0 * 2 ^ (8 * 0) + b.getD 1 0 * 2 ^ (8 * 1) + b.getD 2 0 * 2 ^ (8 * 2) + b.getD 3 0 * 2 ^ (8 * 3)) 0
  refine e0.trans (e1.trans (e2.trans (e3.trans (e4.trans ?_))))
  unfold num4
  congr 1
  omega

theorem shr_at (x : Int) (i : Nat) (hi : i ≤ 3) : shr .i64 x ((8 * i : Nat) : Int) % 256 = x / 2 ^ (8 * i) % 256 := by
  unfold shr
  rw [Int.toNat_natCast]
  have hm : min (8 * i) IntKind.i64.bits = 8 * i := by show min (8 * i) 64 = 8 * i; omega
  rw [hm]
theorem le2 (x : Int) : le 2 x = [x % 256, x / 256 % 256] := by
  have h0 := shr_at x 0 (by omega)
  have h1 := shr_at x 1 (by omega)
  simp only [PF.le, List.range_succ, List.range_zero, List.nil_append, List.map_append, List.map_cons, List.map_nil, List.cons_append, h0, h1]
  simp
theorem le4 (x : Int) : le 4 x = [x % 256, x / 256 % 256, x / 65536 % 256, x / 16777216 % 256] := by
  have h0 := shr_at x 0 (by omega)
  have h1 := shr_at x 1 (by omega)
  have h2 := shr_at x 2 (by omega)
  have h3 := shr_at x 3 (by omega)
  simp only [PF.le, List.range_succ, List.range_zero, List.nil_append, List.map_append, List.map_cons, List.map_nil, List.cons_append, h0, h1, h2, h3]
  simp
theorem num2_le (x : Int) (h0 : 0 ≤ x) (h1 : x < 65536) (r : List Int) : num2 (le 2 x ++ r) = x := by
  rw [le2]
  simp [num2]
  omega
theorem num4_le (x : Int) (h0 : 0 ≤ x) (h1 : x < 4294967296) (r : List Int) : num4 (le 4 x ++ r) = x := by
  rw [le4]
  simp [num4]
  omega
theorem le2_num (b : List Int) (hb : Bytes b) (hl : 2 ≤ b.length) : le 2 (num2 b) = b.take 2 := by
  match b, hl with
  | x :: y :: b, _ =>
    have hx := hb x (by simp)
    have hy := hb y (by simp)
    rw [le2]
    simp [num2]
    omega
theorem le4_num (b : List Int) (hb : Bytes b) (hl : 4 ≤ b.length) : le 4 (num4 b) = b.take 4 := by
  match b, hl with
  | x :: y :: z :: u :: b, _ =>
    have hx := hb x (by simp)
    have hy := hb y (by simp)
    have hz := hb z (by simp)
    have hu := hb u (by simp)
    rw [le4]
    simp [num4]
    omega
end Go.Proofs.Yteljmmdbgnjflaa.PF

namespace Go.Proofs.Yteljmmdbgnjflaa.PF
open Go.RowKit Go.Proofs.YteljmmdbgnjflaaW.PrintWords Go.Proofs.YteljmmdbgnjflaaW.PrintLast Go.Proofs.YteljmmdbgnjflaaW.PrintMore Go.Proofs.Yteljmmdbgnjflaa.H

def repeatN (d : Nat) : Nat → List Int → List Int
  | 0, out => out
  | n + 1, out => repeatN d n (out ++ [out.getD (out.length - d) 0])
theorem repeatN_length (d : Nat) : ∀ n out, (repeatN d n out).length = out.length + n := by
  intro n
  induction n with
  | zero => intro out; rfl
  | succ n ih => intro out; rw [repeatN, ih]; simp; omega

theorem expand_l1 (P : List Int) (size : Int) (at' : Nat) (d : Nat) (hat : at' ≤ 1099511627776) {r : List Int × Bool} (n : Nat) (hn : n ≤ 1000) : ∀ c i out, i + c = n → 1 ≤ d → d ≤ out.length → out.length + c ≤ 1099511627776 →
    Ev (fun k => if ((repeatN d c out).length : Int) > size then some (([] : List Int), false) else frame_expand.l0 k P size (repeatN d c out) ((at' + 3 : Nat) : Int)) r →
    Ev (fun k => frame_expand.l1 k P size out at' (d : Int) (n : Int) (i : Int)) r := by
  intro c
  induction c with
  | zero =>
    intro i out hi h1 h2 h3 h
    refine Ev.step (fun k => ?_) h
    simp only [frame_expand.l1, repeatN]
    have e3 : Aside0 (wrap64 ((at' : Int) + 3) = ((at' + 3 : Nat) : Int)) := ⟨by rw [w64 (by omega) (by omega)]; simp⟩
    rw [if_neg (by omega), e3.out]
    rfl
  | succ c ih =>
    intro i out hi h1 h2 h3 h
    have e3 : Aside0 (wrap64 ((i : Int) + 1) = ((i + 1 : Nat) : Int)) := ⟨by rw [w64 (by omega) (by omega)]; simp⟩
    have e4 : Aside0 (wrap64 ((out.length : Int) - d) = ((out.length - d : Nat) : Int)) := ⟨by rw [w64 (by omega) (by omega)]; omega⟩
    refine Ev.step (fun k => ?_) (ih (i + 1) (out ++ [out.getD (out.length - d) 0]) (by omega) h1 (by simp; omega) (by simp; omega) h)
    simp only [frame_expand.l1]
    rw [e3.out, e4.out, rd_nat, if_pos (by omega), if_pos (by omega), if_pos (by omega), if_pos (by omega)]

theorem wb {x : Int} (h0 : 0 ≤ x) (h1 : x < 256) : wrap64 x = x := w64 (by omega) (by omega)

/-- One step at a run. -/
theorem expand_run (P : List Int) (size : Int) (at' : Nat) (out : List Int) (n : Nat) (hP : P.length ≤ 1099511627776) (ho : out.length ≤ 1099511627776) (hlt : at' < P.length) (hb : P.getD at' 0 = (n : Int) - 1) (h1 : 1 ≤ n) (h2 : n ≤ 128) (hle : at' + 1 + n ≤ P.length) {r : List Int × Bool}
    (h : Ev (fun k => if ((out ++ (P.drop (at' + 1)).take n).length : Int) > size then some (([] : List Int), false) else frame_expand.l0 k P size (out ++ (P.drop (at' + 1)).take n) ((at' + 1 + n : Nat) : Int)) r) :
    Ev (fun k => frame_expand.l0 k P size out (at' : Int)) r := by
  refine Ev.step (fun k => ?_) h
  simp only [frame_expand.l0]
  rw [rd_nat, hb, wb (x := (n : Int) - 1) (by omega) (by omega)]
  have e0 : Aside0 (wrap64 ((n : Int) - 1 + 1) = (n : Int)) := ⟨by rw [w64 (by omega) (by omega)]; omega⟩
  have e1 : Aside0 (wrap64 ((at' : Int) + 1) = ((at' + 1 : Nat) : Int)) := ⟨by rw [w64 (by omega) (by omega)]; simp⟩
  have e2 : Aside0 (wrap64 (((at' + 1 : Nat) : Int) + n) = ((at' + 1 + n : Nat) : Int)) := ⟨by rw [w64 (by omega) (by omega)]; simp⟩
  have e3 : Aside0 (wrap64 (1 + (n : Int)) = ((1 + n : Nat) : Int)) := ⟨by rw [w64 (by omega) (by omega)]; simp⟩
  have e4 : Aside0 (wrap64 ((at' : Int) + ((1 + n : Nat) : Int)) = ((at' + 1 + n : Nat) : Int)) := ⟨by rw [w64 (by omega) (by omega)]; omega⟩
  have e5 : (P.take (at' + 1 + n)).drop (at' + 1) = (P.drop (at' + 1)).take n := by rw [List.drop_take]; congr 1; omega
  rw [e0.out, e1.out, e2.out, e3.out, e4.out]
  simp only [Int.toNat_natCast]
  rw [e5, if_pos (by omega), if_pos (by omega), if_pos (by omega), if_neg (by omega), if_pos (by omega), if_pos (by omega), if_pos (by omega), if_pos (by simp; omega)]
  rfl

/-- The run is not complete. -/
theorem expand_short (P : List Int) (size : Int) (at' : Nat) (out : List Int) (n : Nat) (hP : P.length ≤ 1099511627776) (hlt : at' < P.length) (hb : P.getD at' 0 = (n : Int) - 1) (h1 : 1 ≤ n) (h2 : n ≤ 128) (hle : ¬ at' + 1 + n ≤ P.length) :
    Ev (fun k => frame_expand.l0 k P size out (at' : Int)) ([], false) := by
  refine Ev.step (f := fun _ => some ([], false)) (fun k => ?_) (Ev.now _)
  simp only [frame_expand.l0]
  rw [rd_nat, hb, wb (x := (n : Int) - 1) (by omega) (by omega)]
  have e0 : Aside0 (wrap64 ((n : Int) - 1 + 1) = (n : Int)) := ⟨by rw [w64 (by omega) (by omega)]; omega⟩
  have e1 : Aside0 (wrap64 ((at' : Int) + 1) = ((at' + 1 : Nat) : Int)) := ⟨by rw [w64 (by omega) (by omega)]; simp⟩
  have e2 : Aside0 (wrap64 (((at' + 1 : Nat) : Int) + n) = ((at' + 1 + n : Nat) : Int)) := ⟨by rw [w64 (by omega) (by omega)]; simp⟩
  rw [e0.out, e1.out, e2.out, if_pos (by omega), if_pos (by omega), if_pos (by omega), if_pos (by omega)]

/-- One step at a repetition: what the two bytes behind the first say. -/
def dist (P : List Int) (at' : Nat) : Int := P.getD (at' + 1) 0 + P.getD (at' + 2) 0 * 256
theorem expand_rep (P : List Int) (size : Int) (at' : Nat) (out : List Int) (n : Nat) (hBy : Bytes P) (hP : P.length ≤ 1099511627776) (ho : out.length ≤ 1000000000000) (hlt : at' < P.length) (hb : P.getD at' 0 = (n : Int) + 124) (h1 : 4 ≤ n) (h2 : n ≤ 131) (hle : at' + 3 ≤ P.length) (hd1 : 1 ≤ dist P at') (hd2 : dist P at' ≤ out.length) {r : List Int × Bool}
    (h : Ev (fun k => if ((repeatN (dist P at').toNat n out).length : Int) > size then some (([] : List Int), false) else frame_expand.l0 k P size (repeatN (dist P at').toNat n out) ((at' + 3 : Nat) : Int)) r) :
    Ev (fun k => frame_expand.l0 k P size out (at' : Int)) r := by
  have hx1 := hBy.at_ (at' + 1)
  have hx2 := hBy.at_ (at' + 2)
  have hor : Go.bits .or .i64 (P.getD (at' + 1) 0) (wrap64 (P.getD (at' + 2) 0 * 256)) = dist P at' := by
    rw [w64 (v := P.getD (at' + 2) 0 * 256) (by omega) (by omega)]
    exact or_low 8 _ _ (by omega) (by omega) (by omega) (by omega) (by omega) (by omega)
  have HOR := Aside0.mk hor
  clear hor
  have hm := expand_l1 P size at' (dist P at').toNat (by omega) n (by omega) n 0 out (by omega) (by omega) (by omega) (by omega) h
  refine Ev.step (fun k => ?_) (Ev.step (g := fun k => frame_expand.j1 k P size out at' (n : Int) (dist P at') false) (fun k => ?_) hm)
  · simp only [frame_expand.l0]
    rw [rd_nat, hb, wb (x := (n : Int) + 124) (by omega) (by omega)]
    have e0 : Aside0 (wrap64 ((n : Int) + 124 + 1) = (n : Int) + 125) := ⟨by rw [w64 (by omega) (by omega)]; omega⟩
    have e1 : Aside0 (wrap64 ((at' : Int) + 1) = ((at' + 1 : Nat) : Int)) := ⟨by rw [w64 (by omega) (by omega)]; simp⟩
    have e2 : Aside0 (wrap64 ((at' : Int) + 2) = ((at' + 2 : Nat) : Int)) := ⟨by rw [w64 (by omega) (by omega)]; simp⟩
    have e3 : Aside0 (wrap64 ((at' : Int) + 3) = ((at' + 3 : Nat) : Int)) := ⟨by rw [w64 (by omega) (by omega)]; simp⟩
    have e4 : Aside0 (wrap64 ((n : Int) + 125 + (-125)) = (n : Int)) := ⟨by rw [w64 (by omega) (by omega)]; omega⟩
    rw [e0.out, e1.out, e2.out, e3.out, e4.out, rd_nat, rd_nat, wb hx1.1 hx1.2, wb hx2.1 hx2.2, HOR.out]
    rw [if_pos (by omega), if_pos (by omega), if_neg (by omega), if_neg (by omega), if_pos (by omega), if_pos (by omega), if_pos (by omega), if_pos (by omega), if_neg (by omega)]
    have hdec : decide (dist P at' > (out.length : Int)) = false := decide_eq_false (by omega)
    rw [hdec]
  · simp only [frame_expand.j1]
    rw [if_neg (by simp)]
    have : ((dist P at').toNat : Int) = dist P at' := by omega
    rw [this]
    rfl
/-- .. that is not valid. -/
theorem expand_bad (P : List Int) (size : Int) (at' : Nat) (out : List Int) (n : Nat) (hBy : Bytes P) (hP : P.length ≤ 1099511627776) (ho : out.length ≤ 1000000000000) (hlt : at' < P.length) (hb : P.getD at' 0 = (n : Int) + 124) (h1 : 4 ≤ n) (h2 : n ≤ 131) (hbad : ¬ (at' + 3 ≤ P.length ∧ 1 ≤ dist P at' ∧ dist P at' ≤ out.length)) :
    Ev (fun k => frame_expand.l0 k P size out (at' : Int)) ([], false) := by
  have hx1 := hBy.at_ (at' + 1)
  have hx2 := hBy.at_ (at' + 2)
  have hor : Go.bits .or .i64 (P.getD (at' + 1) 0) (wrap64 (P.getD (at' + 2) 0 * 256)) = dist P at' := by
    rw [w64 (v := P.getD (at' + 2) 0 * 256) (by omega) (by omega)]
    exact or_low 8 _ _ (by omega) (by omega) (by omega) (by omega) (by omega) (by omega)
  have HOR := Aside0.mk hor
  clear hor
  have e0 : Aside0 (wrap64 ((n : Int) + 124 + 1) = (n : Int) + 125) := ⟨by rw [w64 (by omega) (by omega)]; omega⟩
  have e1 : Aside0 (wrap64 ((at' : Int) + 1) = ((at' + 1 : Nat) : Int)) := ⟨by rw [w64 (by omega) (by omega)]; simp⟩
  have e2 : Aside0 (wrap64 ((at' : Int) + 2) = ((at' + 2 : Nat) : Int)) := ⟨by rw [w64 (by omega) (by omega)]; simp⟩
  have e3 : Aside0 (wrap64 ((at' : Int) + 3) = ((at' + 3 : Nat) : Int)) := ⟨by rw [w64 (by omega) (by omega)]; simp⟩
  have e4 : Aside0 (wrap64 ((n : Int) + 125 + (-125)) = (n : Int)) := ⟨by rw [w64 (by omega) (by omega)]; omega⟩
  have hd0 : 0 ≤ dist P at' := by unfold dist; omega
  by_cases hle : at' + 3 ≤ P.length
  · refine Ev.step (f := fun k => frame_expand.j1 k P size out at' (n : Int) (dist P at') true) (fun k => ?_) (Ev.step (f := fun _ => some ([], false)) (fun k => by simp only [frame_expand.j1, if_true]) (Ev.now _))
    simp only [frame_expand.l0]
    rw [rd_nat, hb, wb (x := (n : Int) + 124) (by omega) (by omega)]
    rw [e0.out, e1.out, e2.out, e3.out, e4.out, rd_nat, rd_nat, wb hx1.1 hx1.2, wb hx2.1 hx2.2, HOR.out]
    rw [if_pos (by omega), if_pos (by omega), if_neg (by omega), if_neg (by omega), if_pos (by omega), if_pos (by omega), if_pos (by omega), if_pos (by omega)]
    by_cases hz : dist P at' = 0
    · rw [if_pos hz]
    · have hdec : decide (dist P at' > (out.length : Int)) = true := decide_eq_true (by omega)
      rw [if_neg hz, hdec]
  · refine Ev.step (f := fun _ => some ([], false)) (fun k => ?_) (Ev.now _)
    simp only [frame_expand.l0]
    rw [rd_nat, hb, wb (x := (n : Int) + 124) (by omega) (by omega)]
    rw [e0.out, e3.out, if_pos (by omega), if_pos (by omega), if_neg (by omega), if_pos (by omega)]
theorem expand_end (P : List Int) (size : Int) (at' : Nat) (out : List Int) (hge : P.length ≤ at') : Ev (fun k => frame_expand.l0 k P size out (at' : Int)) (out, ((out.length : Int) == size)) := by
  refine Ev.step (f := fun _ => some _) (fun k => ?_) (Ev.now _)
  simp only [frame_expand.l0]
  rw [if_neg (by omega)]

theorem repeatN_bytes (d : Nat) : ∀ n out, Bytes out → Bytes (repeatN d n out) := by
  intro n
  induction n with
  | zero => intro out h; exact h
  | succ n ih =>
    intro out h
    refine ih _ (h.append ?_)
    intro y hy
    rw [List.mem_singleton.1 hy]
    exact h.at_ _
/-- expand gives an answer. -/
theorem expand_total (P : List Int) (hBy : Bytes P) (hP : P.length ≤ 1000000) (size : Int) (hs : size ≤ 1000000) : ∀ d at' out, P.length - at' ≤ d → Bytes out → (out.length : Int) ≤ max 0 size → ∃ r, Ev (fun k => frame_expand.l0 k P size out (at' : Int)) r ∧ (r.2 = true → Bytes r.1 ∧ (r.1.length : Int) = size) := by
  intro d
  induction d with
  | zero =>
    intro at' out hd hBo ho
    exact ⟨_, expand_end P size at' out (by omega), fun h => ⟨hBo, by simpa using h⟩⟩
  | succ d ih =>
    intro at' out hd hBo ho
    by_cases hlt : at' < P.length
    · have hx := hBy.at_ at'
      by_cases hrun : P.getD at' 0 < 128
      · obtain ⟨n, hn⟩ : ∃ n : Nat, P.getD at' 0 = (n : Int) - 1 := ⟨(P.getD at' 0 + 1).toNat, by omega⟩
        by_cases hle : at' + 1 + n ≤ P.length
        · by_cases hsz : ((out ++ (P.drop (at' + 1)).take n).length : Int) > size
          · exact ⟨([], false), expand_run P size at' out n (by omega) (by omega) hlt hn (by omega) (by omega) hle (Ev.congr (fun k => by rw [if_pos hsz]) (Ev.now _)), fun h => by simp at h⟩
          · obtain ⟨r, hr, hq⟩ := ih (at' + 1 + n) (out ++ (P.drop (at' + 1)).take n) (by omega) (hBo.append ((hBy.drop _).take _)) (by omega)
            exact ⟨r, expand_run P size at' out n (by omega) (by omega) hlt hn (by omega) (by omega) hle (Ev.congr (fun k => by rw [if_neg hsz]) hr), hq⟩
        · exact ⟨_, expand_short P size at' out n (by omega) hlt hn (by omega) (by omega) hle, fun h => by simp at h⟩
      · obtain ⟨n, hn⟩ : ∃ n : Nat, P.getD at' 0 = (n : Int) + 124 := ⟨(P.getD at' 0 - 124).toNat, by omega⟩
        by_cases hok : at' + 3 ≤ P.length ∧ 1 ≤ dist P at' ∧ dist P at' ≤ out.length
        · obtain ⟨hle, hd1, hd2⟩ := hok
          by_cases hsz : ((repeatN (dist P at').toNat n out).length : Int) > size
          · exact ⟨([], false), expand_rep P size at' out n hBy (by omega) (by omega) hlt hn (by omega) (by omega) hle hd1 hd2 (Ev.congr (fun k => by rw [if_pos hsz]) (Ev.now _)), fun h => by simp at h⟩
          · obtain ⟨r, hr, hq⟩ := ih (at' + 3) (repeatN (dist P at').toNat n out) (by omega) (repeatN_bytes _ _ _ hBo) (by omega)
            exact ⟨r, expand_rep P size at' out n hBy (by omega) (by omega) hlt hn (by omega) (by omega) hle hd1 hd2 (Ev.congr (fun k => by rw [if_neg hsz]) hr), hq⟩
        · exact ⟨_, expand_bad P size at' out n hBy (by omega) (by omega) hlt hn (by omega) (by omega) hok, fun h => by simp at h⟩
    · exact ⟨_, expand_end P size at' out (by omega), fun h => ⟨hBo, by simpa using h⟩⟩
end Go.Proofs.Yteljmmdbgnjflaa.PF

namespace Go.Proofs.Yteljmmdbgnjflaa.PF
open Go.RowKit Go.Proofs.YteljmmdbgnjflaaW.PrintWords Go.Proofs.YteljmmdbgnjflaaW.PrintLast Go.Proofs.YteljmmdbgnjflaaW.PrintMore Go.Proofs.Yteljmmdbgnjflaa.H

/-! ### What the best repetition says -/
theorem mrun_eq (xs : List Int) (f a : Nat) : ∀ d n j, n ≤ j → j < mrun xs f a d n → xs.getD (f + j) 0 = xs.getD (a + j) 0 := by
  intro d
  induction d with
  | zero => intro n j h1 h2; simp only [mrun] at h2; omega
  | succ d ih =>
    intro n j h1 h2
    unfold mrun at h2
    split at h2
    · rename_i hc
      by_cases hj : j = n
      · subst hj; exact hc.2
      · exact ih (n + 1) j (by omega) h2
    · omega
theorem bestFrom_eq (xs : List Int) (a : Nat) : ∀ c b, c ≤ a → (0 < b.1 → 1 ≤ b.2 ∧ b.2 ≤ a ∧ b.1 = mlen xs (a - b.2) a) → (0 < (bestFrom xs a c b).1 → 1 ≤ (bestFrom xs a c b).2 ∧ (bestFrom xs a c b).2 ≤ a ∧ (bestFrom xs a c b).1 = mlen xs (a - (bestFrom xs a c b).2) a) := by
  intro c
  induction c with
  | zero => intro b _ h; exact h
  | succ c ih =>
    intro b hc h
    unfold bestFrom
    split
    · refine ih _ (by omega) (fun _ => ⟨by simp only; omega, by simp only; omega, ?_⟩)
      simp only
      congr 1
      omega
    · exact ih _ (by omega) h
theorem best_eq (xs : List Int) (a : Nat) (h : 0 < (best xs a).1) : 1 ≤ (best xs a).2 ∧ (best xs a).2 ≤ a ∧ ∀ j, j < (best xs a).1 → xs.getD (a - (best xs a).2 + j) 0 = xs.getD (a + j) 0 := by
  obtain ⟨h1, h2, h3⟩ := bestFrom_eq xs a a (0, 0) (Nat.le_refl _) (fun h => absurd h (by simp)) h
  refine ⟨h1, h2, fun j hj => ?_⟩
  have hj' : j < mlen xs (a - (best xs a).2) a := by unfold best at hj ⊢; omega
  exact mrun_eq xs _ a 131 0 j (Nat.zero_le _) hj'

theorem take_snoc' (xs : List Int) (a : Nat) (h : a < xs.length) : xs.take (a + 1) = xs.take a ++ [xs.getD a 0] := by
  rw [List.take_succ_eq_append_getElem h]
  simp [h]
theorem repeat_take (xs : List Int) (d : Nat) : ∀ n a, 1 ≤ d → d ≤ a → a + n ≤ xs.length → (∀ j, j < n → xs.getD (a - d + j) 0 = xs.getD (a + j) 0) → repeatN d n (xs.take a) = xs.take (a + n) := by
  intro n
  induction n with
  | zero => intro a _ _ _ _; rfl
  | succ n ih =>
    intro a h1 h2 h3 h
    have hl : (xs.take a).length = a := by rw [List.length_take]; omega
    have hx : (xs.take a).getD ((xs.take a).length - d) 0 = xs.getD a 0 := by
      rw [hl]
      have := h 0 (by omega)
      simp only [Nat.add_zero] at this
      rw [← this]
      simp only [List.getD_eq_getElem?_getD]
      rw [List.getElem?_take_of_lt (by omega)]
    rw [repeatN, hx, ← take_snoc' xs a (by omega), ih (a + 1) (by omega) (by omega) (by omega) ?_]
    · congr 1; omega
    · intro j hj
      have := h (j + 1) (by omega)
      rw [show a + 1 - d + j = a - d + (j + 1) by omega, show a + 1 + j = a + (j + 1) by omega]
      exact this

/-! ### Runs -/
theorem getD_at (a : List Int) (x : Int) (b : List Int) : (a ++ x :: b).getD a.length 0 = x := by simp
theorem expand_runs (size : Int) {r : List Int × Bool} : ∀ (ps : List (List Int)) (pre t out : List Int), (∀ p ∈ ps, 1 ≤ p.length ∧ p.length ≤ 128) → (pre ++ runs ps ++ t).length ≤ 1099511627776 → out.length + (ps.flatMap id).length ≤ 1099511627776 → ((out.length + (ps.flatMap id).length : Nat) : Int) ≤ size →
    Ev (fun k => frame_expand.l0 k (pre ++ runs ps ++ t) size (out ++ ps.flatMap id) ((pre.length + (runs ps).length : Nat) : Int)) r →
    Ev (fun k => frame_expand.l0 k (pre ++ runs ps ++ t) size out (pre.length : Int)) r := by
  intro ps
  induction ps with
  | nil => intro pre t out _ _ _ _ h; simpa [runs] using h
  | cons p ps ih =>
    intro pre t out hp hl ho hs h
    obtain ⟨p1, p2⟩ := hp p (by simp)
    have hsplit : pre ++ runs (p :: ps) ++ t = pre ++ ((((p.length : Int) - 1) % 256) :: (p ++ (runs ps ++ t))) := by simp [runs, runOf]
    have hsplit2 : pre ++ runs (p :: ps) ++ t = (pre ++ runOf p) ++ runs ps ++ t := by simp [runs]
    have hlen : (pre ++ runs (p :: ps) ++ t).length = pre.length + 1 + p.length + (runs ps ++ t).length := by rw [hsplit]; simp; omega
    have hflat : ((p :: ps).flatMap id).length = p.length + (ps.flatMap id).length := by simp
    refine expand_run _ size pre.length out p.length hl (by omega) (by omega) ?_ p1 p2 (by omega) ?_
    · rw [hsplit, getD_at]; omega
    · have hdrop : ((pre ++ runs (p :: ps) ++ t).drop (pre.length + 1)).take p.length = p := by
        rw [hsplit, List.drop_append, List.drop_eq_nil_of_le (by omega)]
        simp
      have hih := ih (pre ++ runOf p) t (out ++ p) (fun q hq => hp q (by simp [hq])) (by rw [← hsplit2]; exact hl) (by rw [List.length_append]; omega) (by rw [List.length_append]; omega) (by
        rw [← hsplit2]
        have e1 : out ++ p ++ ps.flatMap id = out ++ (p :: ps).flatMap id := by simp
        have e2 : (pre ++ runOf p).length + (runs ps).length = pre.length + (runs (p :: ps)).length := by simp [runs, runOf_length]; omega
        rw [e1, e2]
        exact h)
      rw [← hsplit2] at hih
      refine Ev.congr (fun k => ?_) hih
      rw [hdrop, if_neg (by rw [List.length_append]; omega)]
      congr 1
      simp [runOf_length]
      omega

theorem pieces_sizes (xs : List Int) (m k : Nat) (hm : 1 ≤ m) (hk : k = 0 ∨ (k - 1) * m < xs.length) : ∀ p ∈ pieces xs m k, 1 ≤ p.length ∧ p.length ≤ m := by
  intro p hp
  unfold pieces at hp
  obtain ⟨j, hj, rfl⟩ := List.mem_map.1 hp
  rw [List.mem_range] at hj
  have : j * m ≤ (k - 1) * m := Nat.mul_le_mul_right m (by omega)
  rw [List.length_take, List.length_drop]
  omega
theorem flushed_flat (lits : List Int) : (pieces lits 128 ((lits.length + 127) / 128)).flatMap id = lits := by
  rw [pieces_flat]
  exact List.take_of_length_le (by omega)
theorem expand_flushed (size : Int) {r : List Int × Bool} (outs lits t out : List Int) (hl : (flushed outs lits ++ t).length ≤ 1099511627776) (ho : out.length + lits.length ≤ 1099511627776) (hs : ((out.length + lits.length : Nat) : Int) ≤ size)
    (h : Ev (fun k => frame_expand.l0 k (flushed outs lits ++ t) size (out ++ lits) ((flushed outs lits).length : Int)) r) :
    Ev (fun k => frame_expand.l0 k (flushed outs lits ++ t) size out (outs.length : Int)) r := by
  have hf := flushed_flat lits
  refine expand_runs size (pieces lits 128 ((lits.length + 127) / 128)) outs t out (pieces_sizes lits 128 _ (by omega) (by omega)) hl (by rw [hf]; exact ho) (by rw [hf]; exact hs) ?_
  rw [hf]
  have : outs.length + (runs (pieces lits 128 ((lits.length + 127) / 128))).length = (flushed outs lits).length := by unfold flushed; rw [List.length_append]
  rw [this]
  exact h

theorem compL_prefix (xs : List Int) : ∀ f lits outs a, ∃ t, compL xs f lits outs a = outs ++ t := by
  intro f
  induction f with
  | zero => intro lits outs a; exact ⟨_, rfl⟩
  | succ f ih =>
    intro lits outs a
    unfold compL
    split
    · split
      · exact ih _ _ _
      · obtain ⟨t, ht⟩ := ih [] (flushed outs lits ++ [124 + ((best xs a).1 : Int), ((best xs a).2 : Int) % 256, ((best xs a).2 : Int) / 256 % 256]) (a + (best xs a).1)
        rw [ht]
        refine ⟨H.runs (pieces lits 128 ((lits.length + 127) / 128)) ++ ([124 + ((best xs a).1 : Int), ((best xs a).2 : Int) % 256, ((best xs a).2 : Int) / 256 % 256] ++ t), ?_⟩
        unfold flushed
        simp only [List.append_assoc]
    · exact ⟨_, rfl⟩
theorem Bytes.runs {ps : List (List Int)} (h : ∀ p ∈ ps, Bytes p) : Bytes (runs ps) := by
  intro x hx
  unfold H.runs at hx
  obtain ⟨p, hp, hx⟩ := List.mem_flatMap.1 hx
  unfold runOf at hx
  rcases List.mem_cons.1 hx with rfl | hx
  · omega
  · exact h p hp x hx
theorem Bytes.flushed {outs lits : List Int} (ho : Bytes outs) (hl : Bytes lits) : Bytes (flushed outs lits) := by
  refine ho.append (Bytes.runs fun p hp => ?_)
  unfold pieces at hp
  obtain ⟨j, _, rfl⟩ := List.mem_map.1 hp
  exact (hl.drop _).take _
theorem compL_bytes (xs : List Int) (hx : Bytes xs) : ∀ f lits outs a, Bytes lits → Bytes outs → a ≤ xs.length → Bytes (compL xs f lits outs a) := by
  intro f
  induction f with
  | zero => intro lits outs a h1 h2 _; exact h2.flushed h1
  | succ f ih =>
    intro lits outs a h1 h2 ha
    unfold compL
    split
    · split
      · refine ih _ _ _ (h1.append ?_) h2 (by omega)
        intro y hy
        rw [List.mem_singleton.1 hy]
        exact hx.at_ a
      · have hb := best_le xs a ha
        refine ih _ _ _ Bytes.nil ((h2.flushed h1).append ?_) (by omega)
        intro y hy
        rcases List.mem_cons.1 hy with rfl | hy
        · omega
        · rcases List.mem_cons.1 hy with rfl | hy
          · omega
          · rw [List.mem_singleton.1 hy]; omega
    · exact h2.flushed h1
theorem comp_bytes (xs : List Int) (hx : Bytes xs) : Bytes (comp xs) := compL_bytes xs hx _ _ _ _ Bytes.nil Bytes.nil (by omega)

theorem lits_join (xs lits : List Int) (a : Nat) (h1 : lits.length ≤ a) (h2 : lits = (xs.take a).drop (a - lits.length)) : xs.take (a - lits.length) ++ lits = xs.take a := by
  have h := List.take_append_drop (a - lits.length) (xs.take a)
  rw [← h2, List.take_take, Nat.min_eq_left (by omega)] at h
  exact h
theorem expand_compL (xs : List Int) (hx : Bytes xs) (hlen : xs.length ≤ 10000) : ∀ f lits outs a, a ≤ xs.length → xs.length - a ≤ f → lits.length ≤ a → lits = (xs.take a).drop (a - lits.length) → Bytes outs → outs.length ≤ 2 * (a - lits.length) →
    Ev (fun k => frame_expand.l0 k (compL xs f lits outs a) (xs.length : Int) (xs.take (a - lits.length)) (outs.length : Int)) (xs, true) := by
  have final : ∀ lits outs a, a = xs.length → lits.length ≤ a → lits = (xs.take a).drop (a - lits.length) → outs.length ≤ 2 * (a - lits.length) →
      Ev (fun k => frame_expand.l0 k (flushed outs lits) (xs.length : Int) (xs.take (a - lits.length)) (outs.length : Int)) (xs, true) := by
    intro lits outs a ha h1 h2 hO
    have hfl := flushed_length outs lits
    have hj := lits_join xs lits a h1 h2
    have ht : (xs.take (a - lits.length)).length = a - lits.length := by rw [List.length_take]; omega
    have h := expand_flushed (xs.length : Int) (r := (xs, true)) outs lits [] (xs.take (a - lits.length)) (by rw [List.append_nil]; omega) (by omega) (by omega) (by
      rw [List.append_nil, hj, List.take_of_length_le (by omega)]
      refine Ev.congr (fun k => rfl) ?_
      have := expand_end (flushed outs lits) (xs.length : Int) (flushed outs lits).length xs (Nat.le_refl _)
      simpa using this)
    rw [List.append_nil] at h
    exact h
  intro f
  induction f with
  | zero =>
    intro lits outs a ha hf h1 h2 _ hO
    exact final lits outs a (by omega) h1 h2 hO
  | succ f ih =>
    intro lits outs a ha hf h1 h2 hB hO
    by_cases hlt : a < xs.length
    · by_cases hs : (best xs a).1 < 4
      · have e : compL xs (f + 1) lits outs a = compL xs f (lits ++ [xs.getD a 0]) outs (a + 1) := by
          conv => lhs; unfold compL
          rw [if_pos hlt, if_pos hs]
        rw [e]
        have hl : (lits ++ [xs.getD a 0]).length = lits.length + 1 := by simp
        have hi := ih (lits ++ [xs.getD a 0]) outs (a + 1) (by omega) (by omega) (by omega) ?_ hB (by rw [hl]; omega)
        · rw [hl, show a + 1 - (lits.length + 1) = a - lits.length by omega] at hi
          exact hi
        · rw [hl, show a + 1 - (lits.length + 1) = a - lits.length by omega, take_snoc' xs a hlt, List.drop_append_of_le_length (by rw [List.length_take]; omega), ← h2]
      · obtain ⟨hb1, hb2, hb3⟩ := best_le xs a ha
        obtain ⟨hd1, hd2, hd3⟩ := best_eq xs a (by omega)
        have e : compL xs (f + 1) lits outs a = compL xs f [] (flushed outs lits ++ [124 + ((best xs a).1 : Int), ((best xs a).2 : Int) % 256, ((best xs a).2 : Int) / 256 % 256]) (a + (best xs a).1) := by
          conv => lhs; unfold compL
          rw [if_pos hlt, if_neg hs]
        have hBP : Bytes (compL xs (f + 1) lits outs a) := compL_bytes xs hx _ _ _ _ (by rw [h2]; exact (hx.take _).drop _) hB ha
        have hlP := (compL_length xs (f + 1) lits outs a ha).2
        have hfl := flushed_length outs lits
        have hj := lits_join xs lits a h1 h2
        have ht : (xs.take (a - lits.length)).length = a - lits.length := by rw [List.length_take]; omega
        have hta : (xs.take a).length = a := by rw [List.length_take]; omega
        obtain ⟨t, htt⟩ := compL_prefix xs f [] (flushed outs lits ++ [124 + ((best xs a).1 : Int), ((best xs a).2 : Int) % 256, ((best xs a).2 : Int) / 256 % 256]) (a + (best xs a).1)
        have hP : compL xs (f + 1) lits outs a = flushed outs lits ++ ([124 + ((best xs a).1 : Int), ((best xs a).2 : Int) % 256, ((best xs a).2 : Int) / 256 % 256] ++ t) := by rw [e, htt, List.append_assoc]
        have hi := ih [] (flushed outs lits ++ [124 + ((best xs a).1 : Int), ((best xs a).2 : Int) % 256, ((best xs a).2 : Int) / 256 % 256]) (a + (best xs a).1) hb3 (by omega) (by simp) (by simp) ?_ (by simp only [List.length_append, List.length_cons, List.length_nil]; omega)
        · rw [← e] at hi
          have hl3 : (flushed outs lits ++ [124 + ((best xs a).1 : Int), ((best xs a).2 : Int) % 256, ((best xs a).2 : Int) / 256 % 256]).length = (flushed outs lits).length + 3 := by simp
          rw [hl3] at hi
          rw [hP] at hBP hlP hi ⊢
          have g0 : (flushed outs lits ++ ([124 + ((best xs a).1 : Int), ((best xs a).2 : Int) % 256, ((best xs a).2 : Int) / 256 % 256] ++ t)).getD (flushed outs lits).length 0 = 124 + ((best xs a).1 : Int) := by simp
          have g1 : (flushed outs lits ++ ([124 + ((best xs a).1 : Int), ((best xs a).2 : Int) % 256, ((best xs a).2 : Int) / 256 % 256] ++ t)).getD ((flushed outs lits).length + 1) 0 = ((best xs a).2 : Int) % 256 := by simp
          have g2 : (flushed outs lits ++ ([124 + ((best xs a).1 : Int), ((best xs a).2 : Int) % 256, ((best xs a).2 : Int) / 256 % 256] ++ t)).getD ((flushed outs lits).length + 2) 0 = ((best xs a).2 : Int) / 256 % 256 := by simp
          have gd : dist (flushed outs lits ++ ([124 + ((best xs a).1 : Int), ((best xs a).2 : Int) % 256, ((best xs a).2 : Int) / 256 % 256] ++ t)) (flushed outs lits).length = ((best xs a).2 : Int) := by
            unfold dist
            rw [g1, g2]
            omega
          have gl : (flushed outs lits).length + 3 ≤ (flushed outs lits ++ ([124 + ((best xs a).1 : Int), ((best xs a).2 : Int) % 256, ((best xs a).2 : Int) / 256 % 256] ++ t)).length := by simp
          refine expand_flushed (xs.length : Int) outs lits _ (xs.take (a - lits.length)) (by omega) (by omega) (by omega) ?_
          rw [hj]
          refine expand_rep _ _ (flushed outs lits).length (xs.take a) (best xs a).1 hBP (by omega) (by omega) (by omega) (by rw [g0]; omega) (by omega) (by omega) gl (by rw [gd]; omega) (by rw [gd]; omega) ?_
          have hr : repeatN (dist (flushed outs lits ++ ([124 + ((best xs a).1 : Int), ((best xs a).2 : Int) % 256, ((best xs a).2 : Int) / 256 % 256] ++ t)) (flushed outs lits).length).toNat (best xs a).1 (xs.take a) = xs.take (a + (best xs a).1) := by
            rw [gd, Int.toNat_natCast]
            exact repeat_take xs (best xs a).2 (best xs a).1 a hd1 hd2 hb3 hd3
          rw [hr]
          refine Ev.congr (fun k => ?_) hi
          rw [if_neg (by rw [List.length_take]; omega)]
          rfl
        · refine (hB.flushed (by rw [h2]; exact (hx.take _).drop _)).append ?_
          intro y hy
          rcases List.mem_cons.1 hy with rfl | hy
          · omega
          · rcases List.mem_cons.1 hy with rfl | hy
            · omega
            · rw [List.mem_singleton.1 hy]; omega
    · have e : compL xs (f + 1) lits outs a = flushed outs lits := by
        conv => lhs; unfold compL
        rw [if_neg hlt]
      rw [e]
      exact final lits outs a (by omega) h1 h2 hO

theorem expand_comp (xs : List Int) (hx : Bytes xs) (hlen : xs.length ≤ 10000) : Ev (fun k => frame_expand.f k (comp xs) (xs.length : Int)) (xs, true) := by
  have := expand_compL xs hx hlen xs.length [] [] 0 (by omega) (by omega) (by simp) (by simp) Bytes.nil (by simp)
  exact this
end Go.Proofs.Yteljmmdbgnjflaa.PF
