/- What an argument that reads as data holds in memory: numbers, strings, slices and structs of them; lists of types. -/
import Derived.Test.YtpmlcmdojmdmhaaHPureB
import Derived.WalkKit
import Derived.ProofKit
import Derived.OpenShut
import Derived.ShutString
import Derived.ChangeOld
import Derived.Below
import Derived.Deep.Slices
set_option linter.unusedVariables false
set_option linter.unusedSimpArgs false
namespace Go.Proofs.Ytpmlcmdojmdmhaa.PR
open Go.RowKit Go.Proofs.YtpmlcmdojmdmhaaW.PrintWords Go.Proofs.YtpmlcmdojmdmhaaW.PrintLast Go.Proofs.YtpmlcmdojmdmhaaW.PrintMore Go.Deep
/-- Whatever reads as data of type t is a value of the kind d. -/
def Opens {α : Type} (P : Program) (t : TypeId) (d : Kd α) (wf : α → Prop) : Prop :=
  ∀ {H : Type} (enc : TypeId × Value → H) (w : World) (base : Nat) (spare : Nat → Bool) (held : Bool) (fuel : Nat) (cs : List Value) (x : DataW H × List MemPlace), DataW.trod enc P w base spare held fuel t cs = some x → ∃ v, d.K w v cs ∧ wf v
section
variable {P : Program} {t e : TypeId}
theorem opens_int {k : IntKind} (h : P.underlying t = some (.int k)) : Opens P t (Kd.int k) (fun n => (Lit.int k n).wf = true) := fun enc w base spare held fuel cs x hx => by
  obtain ⟨n, rfl, _, hw⟩ := DataW.trod_int h hx
  exact ⟨n, rfl, hw⟩
theorem opens_bool (h : P.underlying t = some .bool) : Opens P t Kd.bool (fun _ => True) := fun enc w base spare held fuel cs x hx => by
  obtain ⟨n, rfl, _⟩ := DataW.trod_bool h hx
  exact ⟨n, rfl, trivial⟩
theorem opens_string (h : P.underlying t = some .string) : Opens P t Kd.string (fun s => s.size ≤ 9223372036854775807) := fun enc w base spare held fuel cs x hx => by
  obtain ⟨s, rfl, _, hw⟩ := DataW.trod_string h hx
  exact ⟨s, rfl, hw⟩
theorem opens_slice {α : Type} {d : Kd α} {wf : α → Prop} (z : α) (h : P.underlying t = some (.slice e)) (hs : P.cellsOf e = d.sz) (hd : Opens P e d wf) : Opens P t (Kd.slice e d) (fun xs => xs.length ≤ 9223372036854775807 ∧ ∀ x ∈ xs, wf x) := fun enc w base spare held fuel cs x hx => by
  rcases open_slice h hx with ⟨rfl, _⟩ | ⟨a, len, cap, m, n, D, Pl, rfl, hb, hl, hm, hmm, _, hall⟩
  · exact ⟨[], ⟨none, 0, rfl, Nat.le_refl _, ⟨rfl, by simp, fun h0 => absurd h0 (by simp)⟩⟩, by simp, fun x hx => by simp at hx⟩
  · have hlm : len ≤ m := by rw [hmm]; split <;> omega
    haveI : Inhabited α := ⟨z⟩
    obtain ⟨F, hF⟩ := choose_lt (n := len) (p := fun i (v : α) => wf v ∧ ∃ c, c.length = d.sz ∧ d.K w v c ∧ ∀ j u, c[j]? = some u → w.cell? (a.add (i * d.sz + j)) = some u) (fun i hi => by
      obtain ⟨c, hc1, hc2⟩ := hall i (by omega)
      obtain ⟨v, hv, hwf⟩ := hd enc w base spare held n c _ hc2
      obtain ⟨_, hlen, hcell⟩ := World.cells?_some hc1
      refine ⟨v, hwf, c, by rw [hlen, hs], hv, fun j u hu => ?_⟩
      have hj : j < P.cellsOf e := by rw [← hlen]; exact (List.getElem?_eq_some_iff.1 hu).1
      have := hcell j hj
      rw [hu, hs, Go.Deep.add_add] at this
      exact this)
    have hlen : ((List.range len).map F).length = len := by simp
    refine ⟨(List.range len).map F, ⟨some a, cap, by rw [hlen], by rw [hlen]; exact hl, ⟨rfl, ?_, fun _ => ⟨a, rfl, fun j p hj => ?_⟩⟩⟩, ?_, fun x hx => ?_⟩
    · rw [hlen]; exact Nat.le_trans hl hm
    · rw [List.getElem?_map] at hj
      obtain ⟨j', hj', rfl⟩ := Option.map_eq_some_iff.1 hj
      obtain ⟨hjl, he⟩ := List.getElem?_eq_some_iff.1 hj'
      rw [List.getElem_range] at he
      subst he
      rw [List.length_range] at hjl
      obtain ⟨_, c, h1, h2, h3⟩ := hF _ hjl
      exact ⟨c, h1, h2, h3⟩
    · rw [hlen]; exact Nat.le_trans hl hm
    · obtain ⟨i, hi, rfl⟩ := List.mem_map.1 hx
      exact (hF i (List.mem_range.1 hi)).1
/-- The slice itself. -/
theorem Opens.slice {α : Type} {d : Kd α} {wf : List α → Prop} (hd : Opens P t (Kd.slice e d) wf) {H : Type} {enc : TypeId × Value → H} {w : World} {base : Nat} {spare : Nat → Bool} {held : Bool} {A : Option Addr} {len cap : Nat} {x : DataW H} {ps : List MemPlace}
    (h : DataW.Trod enc P w base spare held t (.slice A len cap) x ps) : ∃ xs : List α, len = xs.length ∧ xs.length ≤ cap ∧ d.C w A xs.length xs ∧ wf xs := by
  obtain ⟨fuel, hf⟩ := h
  obtain ⟨xs, ⟨A', c', e1, hl, hC⟩, hw⟩ := hd enc w base spare held fuel _ _ hf
  simp [Value.cells] at e1
  obtain ⟨rfl, rfl, rfl⟩ := e1
  exact ⟨xs, rfl, hl, hC, hw⟩
end
/-- A field's cells and the rest's. -/
theorem pair_cut {α β : Type} {a : Kd α} {b : Kd β} {w : World} {x : α} {y : β} {cs : List Value} (o n : Nat) (h1 : a.K w x ((cs.drop o).take n)) (h2 : b.K w y (cs.drop (o + n))) : (Kd.pair a b).K w (x, y) (cs.drop o) :=
  ⟨_, _, by rw [← List.drop_drop, List.take_append_drop], h1, h2⟩
theorem last_cut {α : Type} {a : Kd α} {w : World} {x : α} {cs : List Value} (o n : Nat) (hl : cs.length = o + n) (h1 : a.K w x ((cs.drop o).take n)) : a.K w x (cs.drop o) := by
  rw [List.take_of_length_le (by rw [List.length_drop]; omega)] at h1
  exact h1
def WfF (f : S55) : Prop := f.f0.size ≤ 9223372036854775807 ∧ I64 f.f1 ∧ I64 f.f2
theorem lit_i64 {n : Int} (h : (Lit.int .i64 n).wf = true) : I64 n := by
  simp [Lit.wf, IntKind.min, IntKind.max, IntKind.signed, IntKind.bits] at h
  exact h
theorem Opens.field {P : Program} {ft : TypeId} {α : Type} {d : Kd α} {wf : α → Prop} (hd : Opens P ft d wf) {H : Type} {enc : TypeId × Value → H} {w : World} {base : Nat} {spare : Nat → Bool} {held : Bool} {n i o m : Nat} {cs : List Value} {xs : List (DataW H × List MemPlace)}
    (g : DataW.trod enc P w base spare held n ft ((cs.drop o).take m) = xs[i]?) (hi : i < xs.length) : ∃ v, d.K w v ((cs.drop o).take m) ∧ wf v := by
  rw [List.getElem?_eq_getElem hi] at g
  exact hd enc w base spare held n _ _ g
theorem opens55 : Opens Try.prog 55 k55 WfF := fun enc w base spare held fuel cs x hx => by
  obtain ⟨xs, n, _, _, hl, hxl, hf⟩ := DataW.trod_struct Try.underlying55 hx
  have hc : Try.prog.cellsOf 55 = 3 := by kernel_rfl
  have h9 : Try.prog.cellsOf 9 = 1 := by kernel_rfl
  have h3 : Try.prog.cellsOf 3 = 1 := by kernel_rfl
  rw [hc] at hl
  have hx3 : xs.length = 3 := hxl
  obtain ⟨v0, k0, w0⟩ := Opens.field (opens_string Try.underlying9) (o := 0) (m := 1) (by rw [← h9]; exact hf 0 _ rfl) (by omega)
  obtain ⟨v1, k1, w1⟩ := Opens.field (opens_int Try.underlying3) (o := 1) (m := 1) (by rw [← h3]; exact hf 1 _ rfl) (by omega)
  obtain ⟨v2, k2, w2⟩ := Opens.field (opens_int Try.underlying3) (o := 2) (m := 1) (by rw [← h3]; exact hf 2 _ rfl) (by omega)
  refine ⟨⟨v0, v1, v2⟩, ?_, w0, lit_i64 w1, lit_i64 w2⟩
  have h := pair_cut (a := Kd.string) 0 1 k0 (pair_cut (a := Kd.int .i64) 1 1 k1 (last_cut 2 1 hl k2))
  exact h
theorem opens32 : Opens Try.prog 32 k32 WfT := fun enc w base spare held fuel cs x hx => by
  obtain ⟨xs, n, _, _, hl, hxl, hf⟩ := DataW.trod_struct Try.underlying32 hx
  have hc : Try.prog.cellsOf 32 = 6 := by kernel_rfl
  have h9 : Try.prog.cellsOf 9 = 1 := by kernel_rfl
  have h3 : Try.prog.cellsOf 3 = 1 := by kernel_rfl
  have h30 : Try.prog.cellsOf 30 = 1 := by kernel_rfl
  have h55 : Try.prog.cellsOf 55 = k55.sz := by kernel_rfl
  rw [hc] at hl
  have hx6 : xs.length = 6 := hxl
  obtain ⟨v0, k0, w0⟩ := Opens.field (opens_int Try.underlying3) (o := 0) (m := 1) (by rw [← h3]; exact hf 0 _ rfl) (by omega)
  obtain ⟨v1, k1, w1⟩ := Opens.field (opens_string Try.underlying9) (o := 1) (m := 1) (by rw [← h9]; exact hf 1 _ rfl) (by omega)
  obtain ⟨v2, k2, w2⟩ := Opens.field (opens_int Try.underlying3) (o := 2) (m := 1) (by rw [← h3]; exact hf 2 _ rfl) (by omega)
  obtain ⟨v3, k3, w3⟩ := Opens.field (opens_int Try.underlying3) (o := 3) (m := 1) (by rw [← h3]; exact hf 3 _ rfl) (by omega)
  obtain ⟨v4, k4, w4⟩ := Opens.field (opens_int Try.underlying3) (o := 4) (m := 1) (by rw [← h3]; exact hf 4 _ rfl) (by omega)
  obtain ⟨v5, k5, w5⟩ := Opens.field (opens_slice z55 Try.underlying30 h55 opens55) (o := 5) (m := 1) (by rw [← h30]; exact hf 5 _ rfl) (by omega)
  refine ⟨⟨v0, v1, v2, v3, v4, v5⟩, ?_, lit_i64 w0, w1, lit_i64 w2, lit_i64 w3, lit_i64 w4, w5.1, w5.2⟩
  have h := pair_cut (a := Kd.int .i64) 0 1 k0 (pair_cut (a := Kd.string) 1 1 k1 (pair_cut (a := Kd.int .i64) 2 1 k2 (pair_cut (a := Kd.int .i64) 3 1 k3 (pair_cut (a := Kd.int .i64) 4 1 k4 (last_cut 5 1 hl k5)))))
  exact h
theorem opens22 : Opens Try.prog 22 (Kd.slice 32 k32) (fun l => l.length ≤ 9223372036854775807 ∧ ∀ x ∈ l, WfT x) := opens_slice z32 Try.underlying22 (by kernel_rfl) opens32
theorem opens34 : Opens Try.prog 34 (Kd.slice 3 (Kd.int .i64)) (fun l => l.length ≤ 9223372036854775807 ∧ ∀ x ∈ l, (Lit.int .i64 x).wf = true) := opens_slice 0 Try.underlying34 (by kernel_rfl) (opens_int Try.underlying3)
theorem wfL_of {l : List S32} (h : ∀ x ∈ l, WfT x) : WfL l := fun i hi => by
  have e : l.getD i z32 = l[i] := by simp [hi]
  rw [e]
  exact h _ (List.getElem_mem hi)
end Go.Proofs.Ytpmlcmdojmdmhaa.PR
