/- Equality of two arrays of two ints. -/
import Derived.Test.YtpmlcmdojmdmhaaPRx0
import Derived.ChangeKeysEq
set_option maxRecDepth 100000
namespace Go.Proofs.Ytpmlcmdojmdmhaa.PR
open Go.RowKit Go.Proofs.YtpmlcmdojmdmhaaW.PrintWords
theorem eqA59 (d : Nat) (w : World) (x0 y0 : Int) (x1 y1 : Int) :
    (Op.equalIn (d + 2) 59 (.agg #[.int .i64 x0, .int .i64 x1]) (.agg #[.int .i64 y0, .int .i64 y1])).run Try.prog w = .ok (x0 == y0 && (x1 == y1)) w := by
  obtain ⟨i, hi⟩ : ∃ i, Try.prog.info? 3 = some i := ⟨_, rfl⟩
  rw [run_equalIn_array (w := w) (d := d + 1) _ _ Try.underlying59 hi]
  have hc : Try.prog.cellsOf 3 = 1 := by kernel_rfl
  rw [hc]
  simp only [List.range, List.range.loop, Op.eqItems]
  go_simp
  by_cases h0 : x0 = y0 <;> by_cases h1 : x1 = y1 <;> simp [h0, h1]
end Go.Proofs.Ytpmlcmdojmdmhaa.PR
