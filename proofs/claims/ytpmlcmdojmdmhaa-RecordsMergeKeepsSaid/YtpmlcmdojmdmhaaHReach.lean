/- The pairs that the reference's SameTypes has reached. -/
import Derived.Test.YtpmlcmdojmdmhaaHAlike
set_option linter.unusedVariables false
set_option linter.unusedSimpArgs false
namespace Go.Proofs.Ytpmlcmdojmdmhaa.PR
open Go.RowKit Go.Proofs.YtpmlcmdojmdmhaaW.PrintWords Go.Proofs.YtpmlcmdojmdmhaaW.PrintLast Go.Proofs.YtpmlcmdojmdmhaaW.PrintMore
/-- The types that are reached from a type in one step. -/
def stp (x : S32) : List Int := if x.f0 = 2 ∨ x.f0 = 3 then [x.f3] else x.f5.map (·.f1)
theorem rd_fields (x : S32) (q : Nat) (h : q < x.f5.length) : rd (x.f5.map (·.f1)) (q : Int) = (fd x q).f1 := by
 unfold rd fd
 rw [Int.toNat_natCast, List.getD_eq_getElem?_getD, List.getD_eq_getElem?_getD, List.getElem?_map, List.getElem?_eq_getElem h]
 rfl
theorem TV.kinds {l : List S32} {i : Int} {t : S32} (h : TV l i t) (e : t.f0 = 2 ∨ t.f0 = 3) : t.f5.length = 0 := by
 have := h.p4.2.1
 omega
theorem Alike.len {x y : S32} (h : Alike x y) : (stp x).length = (stp y).length := by
 unfold stp
 rw [← h.1]
 by_cases e : x.f0 = 2 ∨ x.f0 = 3
 · rw [if_pos e, if_pos e]; rfl
 · rw [if_neg e, if_neg e, List.length_map, List.length_map]; exact h.2.2.2.2.1
/-- The pairs of a step, by number. -/
theorem nexts_iff {x y : S32} {R : Int → Int → Prop} (h : Alike x y) (hx : x.f0 = 2 ∨ x.f0 = 3 → x.f5.length = 0) : Nexts x y R ↔ ∀ j : Nat, j < (stp x).length → R (rd (stp x) j) (rd (stp y) j) := by
 have e0 := h.1
 have e5 := h.2.2.2.2.1
 unfold Nexts stp
 rw [← e0]
 by_cases e : x.f0 = 2 ∨ x.f0 = 3
 · simp only [if_pos e]
   exact ⟨fun hh j hj => by
    obtain rfl : j = 0 := by simp at hj; omega
    exact hh.1 e, fun hh => ⟨fun _ => hh 0 (by simp), fun q hq => by have := hx e; omega⟩⟩
 · simp only [if_neg e]
   exact ⟨fun hh j hj => by
    rw [List.length_map] at hj
    rw [rd_fields x j hj, rd_fields y j (by omega)]
    exact hh.2 j hj, fun hh => ⟨fun h => absurd h e, fun q hq => by
     have := hh q (by rw [List.length_map]; exact hq)
     rwa [rd_fields x q hq, rd_fields y q (by omega)] at this⟩⟩
theorem stp_small {l : List S32} {i : Int} {t : S32} (h : TV l i t) : (stp t).length ≤ 8 := by
 have := h.n8
 unfold stp
 split
 · simp
 · rw [List.length_map]; omega
/-! ### lists without doubles -/
theorem nodup_bound : ∀ (n : Nat) (l : List Nat), l.Nodup → (∀ x ∈ l, x < n) → l.length ≤ n
 | 0, [], _, _ => Nat.le_refl _
 | 0, x :: l, _, h => absurd (h x (List.mem_cons_self ..)) (Nat.not_lt_zero _)
 | n + 1, l, hn, h => by
  have h1 := nodup_bound n (l.erase n) (hn.erase n) (fun x hx => by
   have h2 := (hn.mem_erase_iff).1 hx
   have h3 := h x h2.2
   have h4 := h2.1
   omega)
  by_cases hm : n ∈ l
  · rw [List.length_erase_of_mem hm] at h1
    omega
  · rw [List.erase_of_not_mem hm] at h1
    omega
theorem nodup_map {α β : Type} {f : α → β} : ∀ {l : List α}, l.Nodup → (∀ x ∈ l, ∀ y ∈ l, f x = f y → x = y) → (l.map f).Nodup
 | [], _, _ => List.nodup_nil
 | x :: l, hn, hf => by
  rw [List.nodup_cons] at hn
  rw [List.map_cons, List.nodup_cons]
  refine ⟨fun hm => ?_, nodup_map hn.2 (fun u hu v hv => hf u (List.mem_cons_of_mem _ hu) v (List.mem_cons_of_mem _ hv))⟩
  obtain ⟨y, hy, e⟩ := List.mem_map.1 hm
  have := hf y (List.mem_cons_of_mem _ hy) x (List.mem_cons_self ..) e
  subst this
  exact hn.1 hy
theorem pairs_bound (m n : Nat) (l : List S59) (hn : l.Nodup) (h : ∀ t ∈ l, (0 ≤ t.f0 ∧ t.f0 < (m : Int)) ∧ 0 ≤ t.f1 ∧ t.f1 < (n : Int)) : l.length ≤ m * n := by
 have h1 := nodup_bound (m * n) (l.map fun t => t.f0.toNat * n + t.f1.toNat) (nodup_map hn (fun x hx y hy e => by
  have hx' := h x hx
  have hy' := h y hy
  have ln : 0 < n := by omega
  have e1 : (x.f0.toNat * n + x.f1.toNat) / n = (y.f0.toNat * n + y.f1.toNat) / n := by rw [e]
  have e2 : (x.f0.toNat * n + x.f1.toNat) % n = (y.f0.toNat * n + y.f1.toNat) % n := by rw [e]
  rw [Nat.mul_comm, Nat.mul_add_div ln, Nat.div_eq_of_lt (by omega), Nat.mul_comm, Nat.mul_add_div ln, Nat.div_eq_of_lt (by omega)] at e1
  rw [Nat.mul_comm, Nat.mul_add_mod, Nat.mod_eq_of_lt (by omega), Nat.mul_comm, Nat.mul_add_mod, Nat.mod_eq_of_lt (by omega)] at e2
  cases x
  cases y
  simp only at e1 e2 hx' hy' ⊢
  congr 1 <;> omega)) (fun x hx => by
  obtain ⟨t, ht, rfl⟩ := List.mem_map.1 hx
  have h' := h t ht
  have : t.f0.toNat * n + n ≤ m * n := by
   have := Nat.mul_le_mul_right n (show t.f0.toNat + 1 ≤ m by omega)
   rwa [Nat.add_mul, Nat.one_mul] at this
  omega)
 rwa [List.length_map] at h1
/-! ### what is known of the reached pairs -/
def nth (td : List S59) (m : Nat) : S59 := td.getD m z59
structure Done (a b : List S32) (i k : Int) (td : List S59) (n : Nat) : Prop where
 nd : td.Nodup
 rng : ∀ t ∈ td, Inr a t.f0 ∧ Inr b t.f1
 mem : (⟨i, k⟩ : S59) ∈ td
 bis : Bis a b i k → ∀ t ∈ td, Bis a b t.f0 t.f1
 ok : ∀ m, m < n → Alike (rd_T32 a (nth td m).f0) (rd_T32 b (nth td m).f1) ∧ Nexts (rd_T32 a (nth td m).f0) (rd_T32 b (nth td m).f1) (fun u v => (⟨u, v⟩ : S59) ∈ td)
 le : n ≤ td.length
section
variable {a b : List S32} {i k : Int} {td : List S59} {n : Nat}
theorem Done.len (h : Done a b i k td n) : td.length ≤ a.length * b.length := pairs_bound _ _ _ h.nd (fun t ht => ⟨(h.rng t ht).1, (h.rng t ht).2⟩)
theorem Done.start (hi : Inr a i) (hk : Inr b k) : Done a b i k [⟨i, k⟩] 0 :=
 ⟨by simp, fun t ht => by rw [List.mem_singleton] at ht; subst ht; exact ⟨hi, hk⟩, by simp, fun h t ht => by rw [List.mem_singleton] at ht; subst ht; exact h, fun m hm => by omega, by omega⟩
theorem nth_mem (h : n < td.length) : nth td n ∈ td := by
 unfold nth
 rw [List.getD_eq_getElem?_getD, List.getElem?_eq_getElem h]
 exact List.getElem_mem h
theorem mem_nth {t : S59} (h : t ∈ td) : ∃ m, m < td.length ∧ nth td m = t := by
 obtain ⟨m, hm, e⟩ := List.mem_iff_getElem.1 h
 exact ⟨m, hm, by unfold nth; rw [List.getD_eq_getElem?_getD, List.getElem?_eq_getElem hm]; exact e⟩
theorem nth_append {m : Nat} (h : m < td.length) (s : List S59) : nth (td ++ s) m = nth td m := by
 unfold nth
 rw [List.getD_eq_getElem?_getD, List.getD_eq_getElem?_getD, List.getElem?_append_left h]
theorem Done.no (h : Done a b i k td n) (hn : n < td.length) (ha : ¬ Alike (rd_T32 a (nth td n).f0) (rd_T32 b (nth td n).f1)) : ¬ Bis a b i k := fun hB => ha (h.bis hB _ (nth_mem hn)).alike
theorem Done.yes (h : Done a b i k td n) (hn : td.length ≤ n) : Bis a b i k := ⟨fun u v => (⟨u, v⟩ : S59) ∈ td, h.mem, fun u v hm => by
 obtain ⟨m, hm, e⟩ := mem_nth hm
 have := h.ok m (by omega)
 rw [e] at this
 exact this⟩
/-- While the steps from a pair are looked at. -/
structure Mid (a b : List S32) (i k : Int) (td : List S59) (n : Nat) (t : S59) (j : Nat) : Prop where
 d : Done a b i k td n
 lt : n < td.length
 at_ : nth td n = t
 al : Alike (rd_T32 a t.f0) (rd_T32 b t.f1)
 got : ∀ s : Nat, s < j → (⟨rd (stp (rd_T32 a t.f0)) s, rd (stp (rd_T32 b t.f1)) s⟩ : S59) ∈ td
theorem Done.mid (h : Done a b i k td n) (hn : n < td.length) (ha : Alike (rd_T32 a (nth td n).f0) (rd_T32 b (nth td n).f1)) : Mid a b i k td n (nth td n) 0 := ⟨h, hn, rfl, ha, fun s hs => by omega⟩
variable {t : S59} {j : Nat}
theorem Mid.skip (h : Mid a b i k td n t j) (hm : (⟨rd (stp (rd_T32 a t.f0)) j, rd (stp (rd_T32 b t.f1)) j⟩ : S59) ∈ td) : Mid a b i k td n t (j + 1) :=
 ⟨h.d, h.lt, h.at_, h.al, fun s hs => by
  by_cases e : s = j
  · subst e; exact hm
  · exact h.got s (by omega)⟩
theorem Mid.inr (h : Mid a b i k td n t j) : Inr a t.f0 ∧ Inr b t.f1 := h.d.rng _ (h.at_ ▸ nth_mem h.lt)
theorem Mid.push (ha : Valid a) (hb : Valid b) (h : Mid a b i k td n t j) (hj : j < (stp (rd_T32 a t.f0)).length) (hm : (⟨rd (stp (rd_T32 a t.f0)) j, rd (stp (rd_T32 b t.f1)) j⟩ : S59) ∉ td) :
 Mid a b i k (td ++ [⟨rd (stp (rd_T32 a t.f0)) j, rd (stp (rd_T32 b t.f1)) j⟩]) n t (j + 1) := by
 obtain ⟨ia, ib⟩ := h.inr
 have hx := (ha.tv ia.1 ia.2).kinds
 have r : (∀ j : Nat, j < (stp (rd_T32 a t.f0)).length → Inr a (rd (stp (rd_T32 a t.f0)) j) ∧ Inr b (rd (stp (rd_T32 b t.f1)) j)) :=
  (nexts_iff (R := fun u v => Inr a u ∧ Inr b v) h.al hx).1 ⟨fun _ => ⟨ha.elr ia, hb.elr ib⟩, fun q hq => ⟨ha.fdr ia hq, hb.fdr ib (by have := h.al.2.2.2.2.1; omega)⟩⟩
 refine ⟨⟨?_, ?_, List.mem_append_left _ h.d.mem, ?_, ?_, by rw [List.length_append]; have := h.d.le; omega⟩, by rw [List.length_append]; have := h.lt; omega, by rw [nth_append h.lt]; exact h.at_, h.al, ?_⟩
 · rw [List.nodup_append]
   exact ⟨h.d.nd, by simp, fun u hu v hv e => by rw [List.mem_singleton] at hv; subst hv; subst e; exact hm hu⟩
 · intro u hu
   rcases List.mem_append.1 hu with h1 | h1
   · exact h.d.rng u h1
   · rw [List.mem_singleton] at h1; subst h1; exact r j hj
 · intro hB u hu
   rcases List.mem_append.1 hu with h1 | h1
   · exact h.d.bis hB u h1
   · rw [List.mem_singleton] at h1; subst h1
     have := h.d.bis hB _ (h.at_ ▸ nth_mem h.lt)
     exact (nexts_iff h.al hx).1 this.nexts j hj
 · intro m hm
   have hl := h.d.le
   rw [nth_append (by omega)]
   exact ⟨(h.d.ok m hm).1, (h.d.ok m hm).2.mono fun u v hh => List.mem_append_left _ hh⟩
 · intro s hs
   by_cases e : s = j
   · subst e; simp
   · exact List.mem_append_left _ (h.got s (by omega))
theorem Mid.done (ha : Valid a) (h : Mid a b i k td n t j) (hj : (stp (rd_T32 a t.f0)).length ≤ j) : Done a b i k td (n + 1) := by
 obtain ⟨ia, ib⟩ := h.inr
 refine ⟨h.d.nd, h.d.rng, h.d.mem, h.d.bis, fun m hm => ?_, h.lt⟩
 by_cases e : m = n
 · subst e
   rw [h.at_]
   exact ⟨h.al, (nexts_iff h.al (ha.tv ia.1 ia.2).kinds).2 (fun s hs => h.got s (by omega))⟩
 · exact h.d.ok m (by omega)
end
end Go.Proofs.Ytpmlcmdojmdmhaa.PR
