/- The small list of types of records' laws: the function pair makes it. -/
import Derived.Test.YtpmlcmdojmdmhaaPRx0
set_option linter.unusedVariables false
set_option linter.unusedSimpArgs false
set_option maxRecDepth 100000
namespace Go.Proofs.Ytpmlcmdojmdmhaa.PR
open Go.RowKit Go.Proofs.YtpmlcmdojmdmhaaW.PrintWords Go.Proofs.YtpmlcmdojmdmhaaW.PrintLast Go.Proofs.YtpmlcmdojmdmhaaW.PrintMore
def f3 : List S55 := [⟨⟨#[118]⟩, 0, 0⟩, ⟨⟨#[116, 111]⟩, 1, 4⟩]
def l3 : List S32 := [⟨1, ⟨#[110]⟩, 4, 0, 0, []⟩, ⟨2, ⟨#[]⟩, 4, 2, 0, []⟩, ⟨4, ⟨#[115]⟩, 8, 0, 0, f3⟩]
theorem f3_own (w : World) (o : Obj) : Kd.R k55 55 ((w.alloc (.cells #[.string ⟨#[118]⟩, .int .i64 0, .int .i64 0, .string ⟨#[116, 111]⟩, .int .i64 1, .int .i64 4] 55)).alloc o) w.heap.size (fun k => k = w.heap.size) (.slice (some ⟨w.heap.size, 0, none⟩) 2 2) f3 := by
  refine Kd.R_alloc ⟨fun k hk => ?_, [.string ⟨#[118]⟩, .int .i64 0, .int .i64 0, .string ⟨#[116, 111]⟩, .int .i64 1, .int .i64 4], ⟨rfl, .inr ⟨w.heap.size, 2, _, rfl, Nat.le_refl _, heap_alloc_new w _, Nat.le_refl _, by decide, rfl, rfl⟩⟩, Reps.c3 (k55_mkM _ _ _ ⟨⟨#[118]⟩, 0, 0⟩) (Reps.c3 (k55_mkM _ _ _ ⟨⟨#[116, 111]⟩, 1, 4⟩) (Reps.none _ _))⟩ o
  simpa [Value.ownBlock, eq_comm] using hk
theorem l3_own (w W : World) (hW : W = w.alloc (.cells #[.string ⟨#[118]⟩, .int .i64 0, .int .i64 0, .string ⟨#[116, 111]⟩, .int .i64 1, .int .i64 4] 55)) :
    Kd.R k32 32 (W.alloc (.cells #[.int .i64 1, .string ⟨#[110]⟩, .int .i64 4, .int .i64 0, .int .i64 0, .slice none 0 0, .int .i64 2, .string ⟨#[]⟩, .int .i64 4, .int .i64 2, .int .i64 0, .slice none 0 0, .int .i64 4, .string ⟨#[115]⟩, .int .i64 8, .int .i64 0, .int .i64 0, .slice (some ⟨w.heap.size, 0, none⟩) 2 2] 32)) w.heap.size (fun _ => True) (.slice (some ⟨W.heap.size, 0, none⟩) 3 3) l3 := by
  have hs : W.heap.size = w.heap.size + 1 := by rw [hW]; simp
  refine ⟨fun _ _ => trivial, [.int .i64 1, .string ⟨#[110]⟩, .int .i64 4, .int .i64 0, .int .i64 0, .slice none 0 0, .int .i64 2, .string ⟨#[]⟩, .int .i64 4, .int .i64 2, .int .i64 0, .slice none 0 0, .int .i64 4, .string ⟨#[115]⟩, .int .i64 8, .int .i64 0, .int .i64 0, .slice (some ⟨w.heap.size, 0, none⟩) 2 2], ⟨rfl, .inr ⟨W.heap.size, 3, _, rfl, by omega, heap_alloc_new W _, Nat.le_refl _, by decide, rfl, rfl⟩⟩, ?_⟩
  refine Reps.c6 (k32_mkM _ _ _ ⟨1, ⟨#[110]⟩, 4, 0, 0, []⟩ (Kd.R_nil _ _ _ _ _)) (Reps.c6 (k32_mkM _ _ _ ⟨2, ⟨#[]⟩, 4, 2, 0, []⟩ (Kd.R_nil _ _ _ _ _)) (Reps.c6 (k32_mkM _ _ _ ⟨4, ⟨#[115]⟩, 8, 0, 0, f3⟩ ?_) (Reps.none _ _)))
  subst hW
  exact Kd.R_mono (f3_own w _) (fun k hk => ⟨trivial, by subst hk; simp [Value.ownBlock]⟩)
theorem pair_calls (w : World) : Calls Try.prog 25 #[] w fun e w' => ∃ v, e = .returned v ∧ Kd.R k32 32 w' w.heap.size (fun _ => True) v l3 ∧ Below w.heap.size w w' := by
  go_enter Try.func25, Try.ntmps25
  go_wp2
  go_ret
  refine ⟨_, rfl, ?_, below_alloc (below_alloc (Below.refl _ _) _) _⟩
  have h := l3_own w _ rfl
  simp only [World.size_alloc] at h
  exact h
end Go.Proofs.Ytpmlcmdojmdmhaa.PR
