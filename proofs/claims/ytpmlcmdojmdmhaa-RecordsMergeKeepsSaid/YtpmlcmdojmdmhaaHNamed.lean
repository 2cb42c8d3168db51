/- The closures of records.field and records.pairs: what they return, where their captured variable is as given. -/
import Derived.Test.YtpmlcmdojmdmhaaPRx0
set_option linter.unusedVariables false
set_option linter.unusedSimpArgs false
set_option maxRecDepth 100000
namespace Go.Proofs.Ytpmlcmdojmdmhaa.PR
open Go.RowKit Go.Proofs.YtpmlcmdojmdmhaaW.PrintWords Go.Proofs.YtpmlcmdojmdmhaaW.PrintLast Go.Proofs.YtpmlcmdojmdmhaaW.PrintMore
/-- The closure of records.field: whether a field has the name of the one in the box g. -/
def named.f (s : ByteArray) (_ _ : Int) (a1 : ByteArray) : Option Bool := some (s.toList == a1.toList)
theorem named.calls (s : ByteArray) (y1 y2 : Int) (a1 : ByteArray) (g : Nat) (x1 x2 : Int) (r : Bool) (w : World) (hg : w.heap[g]? = some (.cells #[.string a1, .int .i64 x1, .int .i64 x2] 55 (0, 0))) (h : named.f s y1 y2 a1 = some r) :
    Calls Try.prog 43 #[.agg #[.string s, .int .i64 y1, .int .i64 y2], .pointer (some ⟨g, 0, none⟩)] w fun e w' => e = .returned (.bool r) ∧ Below w.heap.size w w' := by
  have hu55 := Try.underlying55
  obtain rfl : (s.toList == a1.toList) = r := Option.some.inj h
  have hlt : g < w.heap.size := (Array.getElem?_eq_some_iff.1 hg).1
  have hc0 : w.cell? ⟨g, 0, none⟩ = some (.string a1) := (blk_cell hg 0).trans rfl
  have hf0 := blk_frozen hg 0
  go_enter Try.func43, Try.ntmps43
  go_wp2
  go_ret
  exact ⟨rfl, below_alloc (Below.refl _ _) _⟩
/-- The closure of records.pairs: the entry of the table in the box g. -/
def sameAt.f (T : List (List Bool)) (i k : Int) : Option Bool := if 0 ≤ i ∧ i < (T.length : Int) ∧ 0 ≤ k ∧ k < ((T.getD i.toNat []).length : Int) then some (rdOf false (T.getD i.toNat []) k) else none
theorem sameAt.calls (A : Option Addr) (c : Nat) (T : List (List Bool)) (i k : Int) (g : Nat) (r : Bool) (w : World) (hg : w.heap[g]? = some (.cells #[.slice A T.length c] 57 (0, 0))) (hr : Kd.C (Kd.slice 4 Kd.bool) w A T.length T) (hc : T.length ≤ c) (h : sameAt.f T i k = some r) :
    Calls Try.prog 37 #[.int .i64 i, .int .i64 k, .pointer (some ⟨g, 0, none⟩)] w fun e w' => e = .returned (.bool r) ∧ Drawn0 w w' := by
  unfold sameAt.f at h
  split at h
  · rename_i hh
    obtain ⟨h0, h1, h2, h3⟩ := hh
    obtain rfl := Option.some.inj h
    have hlt : g < w.heap.size := (Array.getElem?_eq_some_iff.1 hg).1
    have hc0 : w.cell? ⟨g, 0, none⟩ = some (.slice A T.length c) := (blk_cell hg 0).trans rfl
    have hf0 := blk_frozen hg 0
    obtain ⟨ad, A0, c0, rfl, hcell, hl0, hr0⟩ : ∃ ad A0 c0, A = some ad ∧ w.cell? (ad.add i.toNat) = some (.slice A0 (T.getD i.toNat []).length c0) ∧ (T.getD i.toNat []).length ≤ c0 ∧ Kd.bool.C w A0 (T.getD i.toNat []).length (T.getD i.toNat []) := by
      obtain ⟨ad, c, e, _, hK, hcc⟩ := Kd.C_get hr ([] : List Bool) i h0 h1
      obtain ⟨A0, c0, rfl, l0, g0⟩ := hK
      exact ⟨ad, A0, c0, e, by have hq := hcc 0 _ rfl; rwa [show (Kd.slice 4 Kd.bool).sz = 1 from rfl, Nat.mul_one, Nat.add_zero] at hq, l0, g0⟩
    generalize T.getD i.toNat [] = row at *
    obtain ⟨ad0, e0, hx0⟩ := Kd.at_bool hr0 k h2 h3
    cases e0
    replace h0 := eq_true h0
    replace h1 := eq_true h1
    replace h2 := eq_true h2
    replace h3 := eq_true h3
    go_enter Try.func37, Try.ntmps37
    go_wp2
    go_ret
    exact ⟨rfl, by repeat (first | exact Drawn0.refl _ | apply Drawn0.step)⟩
  · exact absurd h (by simp)
end Go.Proofs.Ytpmlcmdojmdmhaa.PR
