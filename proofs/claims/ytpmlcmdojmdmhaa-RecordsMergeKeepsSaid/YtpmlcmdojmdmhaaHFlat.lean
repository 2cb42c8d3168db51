/- A list of types in memory whose elements share their fields with what they were copied from; the numbers of the reference's Merged. -/
import Derived.Test.YtpmlcmdojmdmhaaHMg
import Derived.Deep.Slices
set_option linter.unusedVariables false
set_option linter.unusedSimpArgs false
namespace Go.Proofs.Ytpmlcmdojmdmhaa.PR
open Go.RowKit Go.Proofs.YtpmlcmdojmdmhaaW.PrintWords Go.Proofs.YtpmlcmdojmdmhaaW.PrintLast Go.Proofs.YtpmlcmdojmdmhaaW.PrintMore
/-- An element by its cells: the fields' slice as it stands. -/
structure S32f where
  f0 : Int
  f1 : ByteArray
  f2 : Int
  f3 : Int
  f4 : Int
  v : Value
  one : v.oneCell' = true
def kv : Kd {v : Value // v.oneCell' = true} := Kd.scalar Subtype.val Subtype.property
def kf : Kd S32f := Kd.iso (Kd.pair (Kd.int .i64) (Kd.pair Kd.string (Kd.pair (Kd.int .i64) (Kd.pair (Kd.int .i64) (Kd.pair (Kd.int .i64) kv))))) (fun x => (x.f0, x.f1, x.f2, x.f3, x.f4, ⟨x.v, x.one⟩))
theorem kf_mk (w : World) (x : S32f) : kf.K w x [.int .i64 x.f0, .string x.f1, .int .i64 x.f2, .int .i64 x.f3, .int .i64 x.f4, x.v] :=
  ⟨[.int .i64 x.f0], [.string x.f1, .int .i64 x.f2, .int .i64 x.f3, .int .i64 x.f4, x.v], rfl, rfl, [.string x.f1], [.int .i64 x.f2, .int .i64 x.f3, .int .i64 x.f4, x.v], rfl, rfl, [.int .i64 x.f2], [.int .i64 x.f3, .int .i64 x.f4, x.v], rfl, rfl, [.int .i64 x.f3], [.int .i64 x.f4, x.v], rfl, rfl, [.int .i64 x.f4], [x.v], rfl, rfl, rfl⟩
theorem kf_M {w : World} {base : Nat} {ok : Nat → Prop} {x : S32f} {cs : List Value} (h : kf.K w x cs) : kf.M w base ok x cs := h
theorem kf_open {w : World} {x : S32f} {cs : List Value} (h : kf.K w x cs) : cs = [.int .i64 x.f0, .string x.f1, .int .i64 x.f2, .int .i64 x.f3, .int .i64 x.f4, x.v] := by
  obtain ⟨_, _, rfl, rfl, _, _, rfl, rfl, _, _, rfl, rfl, _, _, rfl, rfl, _, _, rfl, rfl, rfl⟩ := h
  rfl
/-- A slice of fields that can be read: one of the call's own, or one of the world at its start. -/
def Rw (w W : World) (v : Value) (xs : List S55) : Prop := Kd.R k55 55 W w.heap.size (fun _ => True) v xs ∨ ∃ A c, v = .slice A xs.length c ∧ xs.length ≤ c ∧ Kd.C k55 w A xs.length xs
section
variable {w W W' : World} {v u : Value} {xs : List S55}
theorem Rw.below (h : Rw w W v xs) (hb : Below W.heap.size W W') : Rw w W' v xs := h.imp (fun h => Kd.R_below h hb) id
theorem Rw.over (h : Rw w W v xs) (hty : ∀ k, u.ownBlock = some k → ∃ cells, W.heap[k]? = some (.cells cells 32 (0, 0))) (hg : W.grownBy W' u.ownBlock) : Rw w W' v xs := h.imp (fun h => Kd.R_over' h hty (by decide) hg) id
theorem Rw.read (h : Rw w W v xs) (hb : Below w.heap.size w W) : ∃ A c, v = .slice A xs.length c ∧ xs.length ≤ c ∧ Kd.C k55 W A xs.length xs := by
  rcases h with h | ⟨A, c, e, hl, hC⟩
  · exact Kd.R_reads h
  · exact ⟨A, c, e, hl, Kd.C_below hC hb⟩
end
def Fl (w W : World) (x : S32) (y : S32f) : Prop := y.f0 = x.f0 ∧ y.f1 = x.f1 ∧ y.f2 = x.f2 ∧ y.f3 = x.f3 ∧ y.f4 = x.f4 ∧ Rw w W y.v x.f5
def All2 {α β : Type} (R : α → β → Prop) (xs : List α) (ys : List β) : Prop := xs.length = ys.length ∧ ∀ (j : Nat) x y, xs[j]? = some x → ys[j]? = some y → R x y
theorem All2.mono {α β : Type} {R S : α → β → Prop} {xs : List α} {ys : List β} (h : All2 R xs ys) (hs : ∀ x y, R x y → S x y) : All2 S xs ys := ⟨h.1, fun j x y hx hy => hs x y (h.2 j x y hx hy)⟩
theorem All2.snoc {α β : Type} {R : α → β → Prop} {xs : List α} {ys : List β} (h : All2 R xs ys) {x : α} {y : β} (hr : R x y) : All2 R (xs ++ [x]) (ys ++ [y]) :=
  ⟨by rw [List.length_append, List.length_append, h.1]; rfl, fun j u v hu hv => by
    have hl := h.1
    by_cases e : j < xs.length
    · rw [List.getElem?_append_left e] at hu
      rw [List.getElem?_append_left (by omega)] at hv
      exact h.2 j u v hu hv
    · rw [List.getElem?_append_right (by omega)] at hu
      rw [List.getElem?_append_right (by omega)] at hv
      have hj : j - xs.length = 0 := by
        have := (List.getElem?_eq_some_iff.1 hu).1
        simp at this
        omega
      rw [hj] at hu
      rw [show j - ys.length = 0 by omega] at hv
      cases hu
      cases hv
      exact hr⟩
/-- The list that Merged puts together. -/
def Ot (w W : World) (v : Value) (xs : List S32) : Prop := ∃ fl : List S32f, Kd.R kf 32 W w.heap.size (fun _ => True) v fl ∧ All2 (Fl w W) xs fl
section
variable {w W W' : World} {v u : Value} {xs : List S32}
theorem Fl.below {x : S32} {y : S32f} (h : Fl w W x y) (hb : Below W.heap.size W W') : Fl w W' x y := ⟨h.1, h.2.1, h.2.2.1, h.2.2.2.1, h.2.2.2.2.1, h.2.2.2.2.2.below hb⟩
theorem Fl.over {x : S32} {y : S32f} (h : Fl w W x y) (hty : ∀ k, u.ownBlock = some k → ∃ cells, W.heap[k]? = some (.cells cells 32 (0, 0))) (hg : W.grownBy W' u.ownBlock) : Fl w W' x y := ⟨h.1, h.2.1, h.2.2.1, h.2.2.2.1, h.2.2.2.2.1, h.2.2.2.2.2.over hty hg⟩
theorem Ot.below (h : Ot w W v xs) (hb : Below W.heap.size W W') : Ot w W' v xs := by
  obtain ⟨fl, h1, h2⟩ := h
  exact ⟨fl, Kd.R_below h1 hb, h2.mono fun _ _ h => h.below hb⟩
theorem Ot.slice (h : Ot w W v xs) : ∃ A c, v = .slice A xs.length c := by
  obtain ⟨fl, h1, h2⟩ := h
  obtain ⟨A, c, e⟩ := Kd.R_slice h1
  exact ⟨A, c, by rw [h2.1]; exact e⟩
/-- What reads as a list of types has its elements' cells. -/
theorem flat_of {A : Option Addr} {n : Nat} {l : List S32} (h : Kd.C k32 w A n l) : ∃ fl : List S32f, Kd.C kf w A n fl ∧ All2 (Fl w w) l fl := by
  obtain ⟨h1, h2, h3⟩ := h
  rcases Nat.eq_zero_or_pos n with h0 | h0
  · subst h0
    have : l = [] := List.length_eq_zero_iff.1 h1
    subst this
    exact ⟨[], ⟨rfl, h2, fun h => by omega⟩, rfl, fun j x y hx => by simp at hx⟩
  · obtain ⟨ad, e, hc⟩ := h3 h0
    haveI : Inhabited S32f := ⟨⟨0, ⟨#[]⟩, 0, 0, 0, .slice none 0 0, rfl⟩⟩
    obtain ⟨F, hF⟩ := Go.Deep.choose_lt (n := n) (p := fun i (y : S32f) => Fl w w (l.getD i z32) y ∧ ∃ c, c.length = 6 ∧ kf.K w y c ∧ ∀ j u, c[j]? = some u → w.cell? (ad.add (i * 6 + j)) = some u) (fun i hi => by
      obtain ⟨c, hl, hK, hcell⟩ := hc i _ (List.getElem?_eq_getElem (by omega))
      obtain ⟨A5, c5, rfl, l5, g5⟩ := k32_open hK
      have e1 : l.getD i z32 = l[i] := by rw [List.getD_eq_getElem?_getD, List.getElem?_eq_getElem (by omega)]; rfl
      rw [e1]
      exact ⟨⟨l[i].f0, l[i].f1, l[i].f2, l[i].f3, l[i].f4, .slice A5 l[i].f5.length c5, rfl⟩, ⟨rfl, rfl, rfl, rfl, rfl, .inr ⟨A5, c5, rfl, l5, g5⟩⟩, _, hl, kf_mk w _, hcell⟩)
    refine ⟨(List.range n).map F, ⟨by simp, h2, fun _ => ⟨ad, e, fun j p hj => ?_⟩⟩, by simp [h1], fun j x y hx hy => ?_⟩
    · rw [List.getElem?_map] at hj
      obtain ⟨j', hj', rfl⟩ := Option.map_eq_some_iff.1 hj
      obtain ⟨hjl, he⟩ := List.getElem?_eq_some_iff.1 hj'
      rw [List.getElem_range] at he
      subst he
      rw [List.length_range] at hjl
      obtain ⟨_, c, a1, a2, a3⟩ := hF _ hjl
      exact ⟨c, a1, a2, a3⟩
    · rw [List.getElem?_map] at hy
      obtain ⟨j', hj', rfl⟩ := Option.map_eq_some_iff.1 hy
      obtain ⟨hjl, he⟩ := List.getElem?_eq_some_iff.1 hj'
      rw [List.getElem_range] at he
      subst he
      rw [List.length_range] at hjl
      have := (hF _ hjl).1
      rw [List.getD_eq_getElem?_getD, hx] at this
      exact this
theorem Ot.read (h : Ot w W v xs) (hb : Below w.heap.size w W) : ∃ A c, v = .slice A xs.length c ∧ xs.length ≤ c ∧ Kd.C k32 W A xs.length xs := by
  obtain ⟨fl, h1, h2⟩ := h
  obtain ⟨A, c, e, hl, hn, hm, hc⟩ := Kd.R_reads h1
  have hll := h2.1
  refine ⟨A, c, by rw [hll]; exact e, by omega, rfl, by omega, fun h0 => ?_⟩
  obtain ⟨ad, ea, hcell⟩ := hc (by omega)
  refine ⟨ad, ea, fun j p hp => ?_⟩
  have hj := (List.getElem?_eq_some_iff.1 hp).1
  obtain ⟨cs, hl2, hK, hcs⟩ := hcell j _ (List.getElem?_eq_getElem (by omega))
  obtain ⟨e0, e1, e2, e3, e4, hr⟩ := h2.2 j p _ hp (List.getElem?_eq_getElem (by omega))
  obtain ⟨A5, c5, e5, l5, g5⟩ := hr.read hb
  rw [kf_open hK] at hcs hl2
  refine ⟨_, hl2, ?_, hcs⟩
  rw [e0, e1, e2, e3, e4, e5]
  exact ⟨[.int .i64 p.f0], [.string p.f1, .int .i64 p.f2, .int .i64 p.f3, .int .i64 p.f4, .slice A5 p.f5.length c5], rfl, rfl, [.string p.f1], [.int .i64 p.f2, .int .i64 p.f3, .int .i64 p.f4, .slice A5 p.f5.length c5], rfl, rfl, [.int .i64 p.f2], [.int .i64 p.f3, .int .i64 p.f4, .slice A5 p.f5.length c5], rfl, rfl, [.int .i64 p.f3], [.int .i64 p.f4, .slice A5 p.f5.length c5], rfl, rfl, [.int .i64 p.f4], [.slice A5 p.f5.length c5], rfl, rfl, A5, c5, rfl, l5, g5⟩
end
/-! ### the numbers -/
structure Nm (w W : World) (gn cn : Nat) (v8 : Value) (N Ad : List Int) : Prop where
  n : Kd.R (Kd.int .i64) 3 W w.heap.size (fun k => k = gn) (.slice (some ⟨gn, 0, none⟩) N.length cn) N
  a : Kd.R (Kd.int .i64) 3 W w.heap.size (fun k => k ≠ gn) v8 Ad
  bel : Below w.heap.size w W
section
variable {w W W' : World} {gn cn : Nat} {v8 : Value} {N Ad : List Int}
theorem Nm.step (h : Nm w W gn cn v8 N Ad) (hb : Below W.heap.size W W') : Nm w W' gn cn v8 N Ad := ⟨Kd.R_below h.n hb, Kd.R_below h.a hb, below_step h.bel hb⟩
theorem Nm.ntyped (h : Nm w W gn cn v8 N Ad) : ∃ cells, W.heap[gn]? = some (.cells cells 3 (0, 0)) := Kd.R_typed h.n gn (by simp [Value.ownBlock])
theorem Nm.nfrozen (h : Nm w W gn cn v8 N Ad) (j : Nat) : W.frozen? ⟨gn, j, none⟩ = false := by
  obtain ⟨cells, hb⟩ := h.ntyped
  exact blk_frozen hb j
theorem Nm.nget (h : Nm w W gn cn v8 N Ad) (j : Nat) (hj : j < N.length) : W.cell? ⟨gn, j, none⟩ = some (.int .i64 (rd N (j : Int))) := by
  obtain ⟨ad, e, hc⟩ := Kd.at_int (Kd.R_reads' h.n).2.2 (j : Int) (by omega) (by omega)
  cases e
  rw [add_plain, Int.toNat_natCast] at hc
  exact hc
theorem Nm.nset (h : Nm w W gn cn v8 N Ad) (j : Nat) (x : Int) : Nm w (W.setCell ⟨gn, j, none⟩ (.int .i64 x)) gn cn v8 (N.set j x) Ad := by
  obtain ⟨h1, h2⟩ := Kd.R_putg h.n (j : Int) x
  rw [Int.toNat_natCast] at h1 h2
  have hown : (Value.slice (some ⟨gn, 0, none⟩) N.length cn).ownBlock = some gn := by simp [Value.ownBlock]
  exact ⟨by rw [List.length_set]; exact h1, Kd.R_grown h.a h2 (fun k hk e => hk (by injection e)), pw_below_grown h.bel (some gn) h.bel.size h2 (fun k hk => by injection hk with hk; subst hk; exact Kd.R_base h.n gn hown)⟩
theorem Nm.push {v1 : Value} {x : Int} (h : Nm w W gn cn v8 N Ad) (hr : Kd.R (Kd.int .i64) 3 W' w.heap.size (fun k => k ≠ gn) v1 (Ad ++ [x])) (hb : Below w.heap.size w W') (hg : W.grownBy W' v8.ownBlock) : Nm w W' gn cn v1 N (Ad ++ [x]) :=
  ⟨Kd.R_grown h.n hg (fun k hk e => h.a.1 k e.symm hk), hr, hb⟩
theorem Nm.grown0 (h : Nm w W gn cn v8 N Ad) (hb : Below w.heap.size w W') (hg : W.grownBy W' none) : Nm w W' gn cn v8 N Ad := ⟨Kd.R_grown h.n hg (fun _ _ => by simp), Kd.R_grown h.a hg (fun _ _ => by simp), hb⟩
theorem Nm.other {u : Value} {e : Nat} (h : Nm w W gn cn v8 N Ad) (hty : ∀ k, u.ownBlock = some k → ∃ cells, W.heap[k]? = some (.cells cells e (0, 0))) (he : 3 ≠ e) (hb : Below w.heap.size w W') (hg : W.grownBy W' u.ownBlock) : Nm w W' gn cn v8 N Ad :=
  ⟨Kd.R_over' h.n hty (fun q hq => by simp [Kd.int, Kd.scalar] at hq; subst hq; exact he) hg, Kd.R_over' h.a hty (fun q hq => by simp [Kd.int, Kd.scalar] at hq; subst hq; exact he) hg, hb⟩
end
end Go.Proofs.Ytpmlcmdojmdmhaa.PR
