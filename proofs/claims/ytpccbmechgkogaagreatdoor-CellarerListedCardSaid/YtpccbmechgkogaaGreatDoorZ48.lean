/-
  Lemmas: Opens.
-/
import Derived.Deep.Slices
import Derived.ChangeArms
import Derived.Test.YtpccbmechgkogaaGreatDoorV0
set_option linter.unusedVariables false
set_option linter.unusedSimpArgs false
namespace Go.Proofs.YtpccbmechgkogaaGreatDoorW.Opens
open Go.RowKit Go.Proofs.YtpccbmechgkogaaGreatDoorW.PrintWords
def Opens {α : Type} (P : Program) (d : Kd α) (t : TypeId) (ok : α → Prop) : Prop :=
 d.sz = P.cellsOf t ∧ ∀ {H : Type} (enc : TypeId × Value → H) (w : World) (spare : Nat → Bool) (held : Bool) (fuel : Nat) (cs : List Value) (x : DataW H × List MemPlace),
  DataW.trod enc P w 0 spare held fuel t cs = some x → ∃ y, d.K w y cs ∧ ok y
theorem Opens.imp {α : Type} {P : Program} {d : Kd α} {t : TypeId} {ok ok' : α → Prop} (h : Opens P d t ok) (hi : ∀ y, ok y → ok' y) : Opens P d t ok' :=
 ⟨h.1, fun enc w spare held fuel cs x hx => by
  obtain ⟨y, hy, ho⟩ := h.2 enc w spare held fuel cs x hx
  exact ⟨y, hy, hi y ho⟩⟩
theorem Opens.int {P : Program} {t : TypeId} {k : IntKind} (hu : P.underlying t = some (.int k)) (hc : P.cellsOf t = 1) : Opens P (Kd.int k) t (fun n => (Lit.int k n).wf = true) :=
 ⟨hc.symm, fun enc w spare held fuel cs x hx => by
  obtain ⟨n, h1, _, h3⟩ := DataW.trod_int hu hx
  exact ⟨n, h1, h3⟩⟩
theorem Opens.bool {P : Program} {t : TypeId} (hu : P.underlying t = some .bool) (hc : P.cellsOf t = 1) : Opens P Kd.bool t (fun _ => True) :=
 ⟨hc.symm, fun enc w spare held fuel cs x hx => by
  obtain ⟨n, h1, _⟩ := DataW.trod_bool hu hx
  exact ⟨n, h1, trivial⟩⟩
theorem Opens.string {P : Program} {t : TypeId} (hu : P.underlying t = some .string) (hc : P.cellsOf t = 1) : Opens P Kd.string t (fun s => s.size ≤ maxLen) :=
 ⟨hc.symm, fun enc w spare held fuel cs x hx => by
  obtain ⟨s, h1, _, h3⟩ := DataW.trod_string hu hx
  exact ⟨s, h1, h3⟩⟩
theorem Opens.slice {α : Type} {P : Program} {d : Kd α} {t e : TypeId} {ok : α → Prop} (hu : P.underlying t = some (.slice e)) (hc : P.cellsOf t = 1) (h : Opens P d e ok) : Opens P (Kd.slice e d) t (fun xs => xs.length ≤ maxLen ∧ ∀ y ∈ xs, ok y) :=
 ⟨hc.symm, fun enc w spare held fuel cs x hx => by
  rcases Deep.open_slice hu hx with ⟨rfl, _⟩ | ⟨a, len, cap, m, n, D, Pl, rfl, _, hl, hm, he, _, hcell⟩
  ·exact ⟨[], ⟨none, 0, rfl, Nat.le_refl _, Kd.C_nil d w⟩, by simp [maxLen], fun y hy => by simp at hy⟩
  ·have hlen : len ≤ m := by rw [he]; split <;> omega
   have H : ∀ i : Fin len, ∃ y, ok y ∧ ∃ c, w.cells? 0 (a.add (i.val * P.cellsOf e)) (P.cellsOf e) = some c ∧ d.K w y c := fun i => by
    obtain ⟨c, h1, h2⟩ := hcell i.val (by have := i.isLt; omega)
    obtain ⟨y, h3, h4⟩ := h.2 enc w spare held n _ _ h2
    exact ⟨y, h4, c, h1, h3⟩
   refine ⟨List.ofFn fun i => Classical.choose (H i), ⟨some a, cap, by simp, by simpa using hl, by simp, by simp only [List.length_ofFn]; simp only [maxLen] at hm; omega, fun _ => ⟨a, rfl, fun j p hj => ?_⟩⟩, by simp only [List.length_ofFn]; omega, fun y hy => ?_⟩
   ·obtain ⟨hj1, hj2⟩ := List.getElem?_eq_some_iff.1 hj
    simp only [List.length_ofFn] at hj1
    rw [List.getElem_ofFn] at hj2
    obtain ⟨_, c, hc1, hc2⟩ := Classical.choose_spec (H ⟨j, hj1⟩)
    rw [hj2] at hc2
    obtain ⟨_, hcl, hcc⟩ := World.cells?_some hc1
    refine ⟨c, d.K_len hc2, hc2, fun i u hu => ?_⟩
    have hi : i < P.cellsOf e := by rw [← hcl]; exact (List.getElem?_eq_some_iff.1 hu).1
    have := hcc i hi
    rw [hu, add_add] at this
    rw [h.1]
    exact this
   ·obtain ⟨i, rfl⟩ := List.mem_ofFn.1 hy
    exact (Classical.choose_spec (H i)).1⟩
def OpensF {α : Type} (P : Program) (d : Kd α) (fs : List Field) (o : Nat) (ok : α → Prop) : Prop :=
 ∀ {H : Type} (enc : TypeId × Value → H) (w : World) (spare : Nat → Bool) (held : Bool) (n : Nat) (cs : List Value),
  (∀ f ∈ fs, ∃ x, DataW.trod enc P w 0 spare held n f.type ((cs.drop f.offset).take (P.cellsOf f.type)) = some x) → cs.length = o + d.sz → ∃ y, d.K w y (cs.drop o) ∧ ok y
theorem OpensF.one {α : Type} {P : Program} {d : Kd α} {f : Field} {o : Nat} {ok : α → Prop} (ho : f.offset = o) (h : Opens P d f.type ok) : OpensF P d [f] o ok :=
 fun enc w spare held n cs hx hl => by
  obtain ⟨x, hx⟩ := hx f (by simp)
  obtain ⟨y, h1, h2⟩ := h.2 enc w spare held n _ x hx
  refine ⟨y, ?_, h2⟩
  rwa [ho, List.take_of_length_le (by rw [List.length_drop, ← h.1]; omega)] at h1
theorem OpensF.cons {α β : Type} {P : Program} {d : Kd α} {d' : Kd β} {f : Field} {fs : List Field} {o : Nat} {ok : α → Prop} {ok' : β → Prop} (ho : f.offset = o) (h : Opens P d f.type ok) (h' : OpensF P d' fs (o + P.cellsOf f.type) ok') :
  OpensF P (Kd.pair d d') (f :: fs) o (fun p => ok p.1 ∧ ok' p.2) :=
 fun enc w spare held n cs hx hl => by
  have hl' : cs.length = o + (d.sz + d'.sz) := hl
  obtain ⟨x, hx1⟩ := hx f (by simp)
  obtain ⟨y, h1, h2⟩ := h.2 enc w spare held n _ x hx1
  obtain ⟨z, h3, h4⟩ := h' enc w spare held n cs (fun g hg => hx g (by simp [hg])) (by rw [← h.1]; omega)
  refine ⟨(y, z), ⟨_, _, ?_, by rw [ho] at h1; exact h1, h3⟩, h2, h4⟩
  rw [← List.drop_drop, List.take_append_drop]
theorem Opens.struct {α β : Type} {P : Program} {d : Kd α} {t : TypeId} {fs : Array Field} {ok : α → Prop} (f : β → α) (g : α → β) (hfg : ∀ a, f (g a) = a) (hu : P.underlying t = some (.struct fs)) (hc : d.sz = P.cellsOf t) (h : OpensF P d fs.toList 0 ok) :
  Opens P (Kd.iso d f) t (fun b => ok (f b)) :=
 ⟨hc, fun enc w spare held fuel cs x hx => by
  obtain ⟨xs, n, _, _, hl, hxs, hf⟩ := DataW.trod_struct hu hx
  obtain ⟨y, h1, h2⟩ := h enc w spare held n cs (fun fd hfd => by
   obtain ⟨i, hi, rfl⟩ := List.getElem_of_mem hfd
   have := hf i fs[i] (by simp at hi; simp [hi])
   rw [List.getElem?_eq_getElem (by simp at hi; omega)] at this
   exact ⟨_, by simpa using this⟩) (by rw [hl, hc]; omega)
  refine ⟨g y, ?_, by show ok (f (g y)); rw [hfg]; exact h2⟩
  show d.K w (f (g y)) cs
  rw [hfg]
  simpa using h1⟩
end Go.Proofs.YtpccbmechgkogaaGreatDoorW.Opens
