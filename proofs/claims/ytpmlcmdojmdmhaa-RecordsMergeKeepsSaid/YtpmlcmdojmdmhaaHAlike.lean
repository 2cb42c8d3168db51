/- Equality of types as the largest relation whose pairs agree. -/
import Derived.Test.YtpmlcmdojmdmhaaHPth
set_option linter.unusedVariables false
set_option linter.unusedSimpArgs false
namespace Go.Proofs.Ytpmlcmdojmdmhaa.PR
open Go.RowKit Go.Proofs.YtpmlcmdojmdmhaaW.PrintWords Go.Proofs.YtpmlcmdojmdmhaaW.PrintLast Go.Proofs.YtpmlcmdojmdmhaaW.PrintMore
/-- Two types agree in themselves. -/
def Alike (x y : S32) : Prop := x.f0 = y.f0 ∧ x.f1.toList = y.f1.toList ∧ x.f2 = y.f2 ∧ x.f4 = y.f4 ∧ x.f5.length = y.f5.length ∧ ∀ q, q < x.f5.length → (fd x q).f0.toList = (fd y q).f0.toList ∧ (fd x q).f2 = (fd y q).f2
/-- The pairs reached from two types in one step. -/
def Nexts (x y : S32) (R : Int → Int → Prop) : Prop := (x.f0 = 2 ∨ x.f0 = 3 → R x.f3 y.f3) ∧ ∀ q, q < x.f5.length → R (fd x q).f1 (fd y q).f1
theorem Nexts.mono {x y : S32} {R S : Int → Int → Prop} (h : Nexts x y R) (hs : ∀ u v, R u v → S u v) : Nexts x y S := ⟨fun e => hs _ _ (h.1 e), fun q hq => hs _ _ (h.2 q hq)⟩
/-- Two types are equal. -/
def Bis (a b : List S32) (i q : Int) : Prop := ∃ R : Int → Int → Prop, R i q ∧ ∀ x y, R x y → Alike (rd_T32 a x) (rd_T32 b y) ∧ Nexts (rd_T32 a x) (rd_T32 b y) R
theorem Bis.alike {a b : List S32} {i q : Int} (h : Bis a b i q) : Alike (rd_T32 a i) (rd_T32 b q) := by
  obtain ⟨R, h0, h1⟩ := h
  exact (h1 _ _ h0).1
theorem Bis.nexts {a b : List S32} {i q : Int} (h : Bis a b i q) : Nexts (rd_T32 a i) (rd_T32 b q) (Bis a b) := by
  obtain ⟨R, h0, h1⟩ := h
  exact (h1 _ _ h0).2.mono fun u v h => ⟨R, h, h1⟩
theorem Bis.refl (l : List S32) (i : Int) : Bis l l i i := ⟨Eq, rfl, fun x y h => by subst h; exact ⟨⟨rfl, rfl, rfl, rfl, rfl, fun _ _ => ⟨rfl, rfl⟩⟩, fun _ => rfl, fun _ _ => rfl⟩⟩
theorem Bis.symm {a b : List S32} {i q : Int} (h : Bis a b i q) : Bis b a q i := by
  obtain ⟨R, h0, h1⟩ := h
  refine ⟨fun u v => R v u, h0, fun x y h => ?_⟩
  obtain ⟨⟨e0, e1, e2, e3, e4, e5⟩, n1, n2⟩ := h1 _ _ h
  exact ⟨⟨e0.symm, e1.symm, e2.symm, e3.symm, e4.symm, fun q hq => ⟨(e5 q (by omega)).1.symm, (e5 q (by omega)).2.symm⟩⟩, fun e => n1 (by omega), fun q hq => n2 q (by omega)⟩
theorem Bis.trans {a b c : List S32} {i q p : Int} (h : Bis a b i q) (g : Bis b c q p) : Bis a c i p := by
  obtain ⟨R, h0, h1⟩ := h
  obtain ⟨S, g0, g1⟩ := g
  refine ⟨fun u v => ∃ t, R u t ∧ S t v, ⟨_, h0, g0⟩, ?_⟩
  rintro x y ⟨t, hr, hs⟩
  obtain ⟨⟨e0, e1, e2, e3, e4, e5⟩, n1, n2⟩ := h1 _ _ hr
  obtain ⟨⟨d0, d1, d2, d3, d4, d5⟩, m1, m2⟩ := g1 _ _ hs
  exact ⟨⟨e0.trans d0, e1.trans d1, e2.trans d2, e3.trans d3, e4.trans d4, fun q hq => ⟨(e5 q hq).1.trans (d5 q (by omega)).1, (e5 q hq).2.trans (d5 q (by omega)).2⟩⟩, fun e => ⟨_, n1 e, m1 (by omega)⟩, fun q hq => ⟨_, n2 q hq, m2 q (by omega)⟩⟩
def Inr (l : List S32) (x : Int) : Prop := 0 ≤ x ∧ x < (l.length : Int)
theorem Valid.fdr {l : List S32} (hv : Valid l) {t : Int} (ht : Inr l t) {q : Nat} (hq : q < (rd_T32 l t).f5.length) : Inr l (fd (rd_T32 l t) q).f1 := by
  have := hv.fld ht.1 ht.2 (k := (q : Int)) (by omega) (by omega)
  rw [fd_eq] at this
  exact ⟨this.1, by have := ht.2; omega⟩
theorem Valid.elr {l : List S32} (hv : Valid l) {t : Int} (ht : Inr l t) : Inr l (rd_T32 l t).f3 := (hv.tv ht.1 ht.2).p3.2.2
end Go.Proofs.Ytpmlcmdojmdmhaa.PR
