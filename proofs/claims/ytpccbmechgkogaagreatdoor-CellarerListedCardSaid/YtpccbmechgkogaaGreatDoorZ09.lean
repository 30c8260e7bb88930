/-
  Lemmas: View.
-/
import Derived.ArgAppend
import Derived.Deep.Upon
import Derived.Test.YtpccbmechgkogaaGreatDoorProg
import Derived.Test.YtpccbmechgkogaaGreatDoorV0
set_option linter.unusedVariables false
set_option linter.unusedSimpArgs false
namespace Go.Proofs.YtpccbmechgkogaaGreatDoor.View
open Go.RowKit Go.Proofs.YtpccbmechgkogaaGreatDoorW.PrintWords Go.Proofs.YtpccbmechgkogaaGreatDoorW.PrintWords.Kd
theorem one_of_raw {sz : Nat} {rows : List (List Value)} {inner : List Value} (hs : 0 < sz) (h : Reps (fun x cs => cs = x ∧ cs.length = sz ∧ ∀ u ∈ cs, u.oneCell' = true) sz rows inner) : ∀ u ∈ inner, u.oneCell' = true := by
 intro u hu
 obtain ⟨q, hq, rfl⟩ := List.mem_iff_getElem.1 hu
 have hql : q / sz < rows.length := by
  rw [Nat.div_lt_iff_lt_mul hs]
  rw [← h.1]
  exact hq
 refine (h.2 (q / sz) _ (List.getElem?_eq_getElem hql)).2.2 _ ?_
 rw [List.mem_iff_getElem?]
 refine ⟨q % sz, ?_⟩
 rw [List.getElem?_take, if_pos (Nat.mod_lt _ hs), List.getElem?_drop, Nat.mul_comm, Nat.div_add_mod, List.getElem?_eq_getElem hq]
theorem run_append_view {P : Program} {α : Type} (d : Kd α) (W : World) (t ty e : TypeId) (z : Value) (bytes : Nat)
  (ht : P.underlying t = some (.slice e)) (hinfo : (P.info? e).map (fun i => (i.zero, i.size, i.bytes)) = some (some z, d.sz, bytes)) (hz : z.cells.size = d.sz) (hs0 : 0 < d.sz) (hb0 : 0 < bytes)
  (A : Option Addr) (xs ys : List α) (B : Option Addr) (c : Nat) (ok : Nat → Prop) (HX : F d W ok A xs.length xs) (HY : F d W ok B ys.length ys) (hl : (xs.length + ys.length) * bytes ≤ 140737488355328) :
  ∃ v1 w1, (Builtin.append_ #[t, t] ty #[.slice A xs.length xs.length, .slice B ys.length c]).run P W = .ok v1 w1 ∧ V d e w1 0 (fun k => ok k ∨ W.heap.size ≤ k) v1 (xs ++ ys) ∧ Below W.heap.size W w1 := by
 obtain ⟨i0, hi, hzz⟩ := Option.map_eq_some_iff.1 hinfo
 simp only [Prod.mk.injEq] at hzz
 obtain ⟨hz0, hz1, hz2⟩ := hzz
 have hlen : xs.length + ys.length ≤ 140737488355328 := Nat.le_trans (Nat.le_mul_of_pos_right _ hb0) hl
 rcases Nat.eq_zero_or_pos ys.length with hy0 | hyp
 ·obtain rfl : ys = [] := List.eq_nil_of_length_eq_zero hy0
  have hsrc : Src P i0.size t (.slice B ([] : List α).length c) 0 [] W := by
   cases B with
   | none => exact Src.ofNil W ht c
   | some ad => exact Src.ofSlice W ht ad 0 c [] (by simp) (fun j u h => by simp at h) (fun u h => by simp at h)
  refine ⟨_, W, run_append_nothing W t t ty e i0 ht hi A xs.length xs.length (Nat.le_refl _) _ hsrc, ?_, Below.refl _ _⟩
  rw [List.append_nil]
  exact V_mk (Nat.le_refl _) (F_mono HX (fun _ h => .inl h))
 ·obtain ⟨rows, hrl, hrr, hrf⟩ := reads_raw (F_rows HX) (fun y c hk => ⟨d.K_len (FK_now hk), d.K_one (FK_now hk)⟩)
  obtain ⟨news, hnl, hnr, hnf⟩ := reads_raw (F_rows HY) (fun y c hk => ⟨d.K_len (FK_now hk), d.K_one (FK_now hk)⟩)
  obtain ⟨ad, rfl, _⟩ := hnr.2.2 hyp
  obtain ⟨ni, hni, hnc⟩ := ReadsRow.inner_ hnr
  have hnlen : ni.length = ys.length * d.sz := by rw [hni.1, hnl]
  have hone := one_of_raw hs0 hni
  have fin : ∀ (oi : List Value), Reps (fun x cs => cs = x ∧ cs.length = d.sz ∧ ∀ u ∈ cs, u.oneCell' = true) d.sz rows oi → ∀ v1 w1, w1.ownsRow W.heap.size e d.sz v1 (xs.length + ys.length) (oi ++ ni) → W.grownBy w1 none →
    V d e w1 0 (fun k => ok k ∨ W.heap.size ≤ k) v1 (xs ++ ys) ∧ Below W.heap.size W w1 := by
   intro oi hoi v1 w1 hown hg
   have hr : (raw d.sz).R e w1 W.heap.size (fun _ => True) v1 ([] ++ (rows ++ news)) := ⟨fun _ _ => trivial, oi ++ ni, by rw [List.nil_append, List.length_append, hrl, hnl]; exact hown, by rw [List.nil_append]; exact reps_append hoi hni⟩
   have hat : v1.ownBlock = (Value.slice none 0 0).ownBlock ∨ ∃ b, v1.ownBlock = some b ∧ W.heap.size ≤ b := by
    rcases hv : v1.ownBlock with _ | b
    ·exact .inl rfl
    ·exact .inr ⟨b, rfl, own_base hown b hv⟩
   have hN := N_appended (d := d) (ok := fun k => ok k ∨ W.heap.size ≤ k) (okp := ok) (v := .slice none 0 0) (xs := []) (ys := xs ++ ys) (rows := []) (news := rows ++ news) (W := W) (w1 := w1) (v1 := v1) (e := e) (base := W.heap.size)
    (fun k h => by cases h) rfl (fun j x c h => by simp at h) (by rw [List.length_append, List.length_append, hrl, hnl])
    (fun j x c hx hc => by
     rcases Nat.lt_or_ge j xs.length with hj | hj
     ·rw [List.getElem?_append_left hj] at hx
      rw [List.getElem?_append_left (by omega)] at hc
      exact hrf j x c hx hc
     ·rw [List.getElem?_append_right hj] at hx
      rw [List.getElem?_append_right (by omega), hrl] at hc
      exact hnf _ x c hx hc)
    (fun k h => ⟨.inl h, by simp [Value.ownBlock]⟩) (fun k h => .inr h) hr hg hat
   rw [List.nil_append] at hN
   exact ⟨N_V hN, (Below.refl W.heap.size W).grown hg (Nat.le_refl _) (fun k h => by cases h)⟩
  rcases A with _ | b
  ·have hx0 : xs = [] := by
    rcases Nat.eq_zero_or_pos xs.length with h0 | h0
    ·exact List.eq_nil_of_length_eq_zero h0
    ·obtain ⟨ad', h, _⟩ := hrr.2.2 h0
     cases h
   subst hx0
   obtain rfl : rows = [] := List.eq_nil_of_length_eq_zero hrl
   obtain ⟨v1, w1, hrun, h1, h2, _⟩ := run_append_own (P := P) W W.heap.size t ty e i0 z d.sz bytes ht hi hz0 hz1 hz2 hz hs0 (.slice none 0 0) 0 [] (World.ownsRow_nil W _ e d.sz) ad ys.length c ni hnlen hnc hone (by simp only [maxLen]; omega) (by simpa using hl) (Nat.le_refl _)
   exact ⟨v1, w1, hrun, fin [] (Reps.none _ _) v1 w1 (by simpa using h1) h2⟩
  ·obtain ⟨oi, hoi, hoc⟩ := ReadsRow.inner_ hrr
   obtain ⟨v1, w1, hrun, h1, h2⟩ := run_append_arg_grows (P := P) W t ty e i0 z d.sz bytes ht hi hz0 hz1 hz2 hz hs0 b xs.length xs.length oi (by rw [hoi.1, hrl]) hoc ad ys.length c ni hnlen hnc (by omega) (by simp only [maxLen]; omega) hl
   exact ⟨v1, w1, hrun, fin oi hoi v1 w1 h1 h2⟩
theorem V_append {P : Program} {ops : Array Oper} {rest : List Oper} {o : Oper} {a : Act} {Q : Exit → Act → World → Prop} {α : Type} (d : Kd α) {W : World} (hgd : o.guard = none) (s x : Operand) (t e : TypeId) (z : Value) (bytes : Nat)
  (ho : o.op = .call { callee := .builtin .append, args := #[s, x], argTypes := #[t, t] })
  (ht : P.underlying t = some (.slice e)) (hinfo : (P.info? e).map (fun i => (i.zero, i.size, i.bytes)) = some (some z, d.sz, bytes)) (hz : z.cells.size = d.sz) (hs0 : 0 < d.sz) (hb0 : 0 < bytes)
  (A : Option Addr) (n : Nat) (xs ys : List α) (B : Option Addr) (m c : Nat) (ok : Nat → Prop) (hs : a.eval s = .slice A n n) (hx : a.eval x = .slice B m c) (hn : n = xs.length) (hm : m = ys.length)
  (HX : F d W ok A xs.length xs) (HY : F d W ok B ys.length ys) (hl : (xs.length + ys.length) * bytes ≤ 140737488355328)
  (h : ∀ v1 w1, V d e w1 0 (fun k => ok k ∨ W.heap.size ≤ k) v1 (xs ++ ys) → Below W.heap.size W w1 → wpList P ops Q rest (a.put o.dst v1) w1) :
  wpList P ops Q (o :: rest) a W := by
 subst hn; subst hm
 obtain ⟨v1, w1, hr, h1, h2⟩ := run_append_view d W t o.type e z bytes ht hinfo hz hs0 hb0 A xs ys B c ok HX HY hl
 refine wpList_plain hgd fun K hK => ?_
 unfold Oper.wp execOp
 simp only [ho, resolve, invoke, builtin, Sem.run_bind, Sem.run_pure, Result.andThen_ok, List.map_toArray, List.map_cons, List.map_nil, hs, hx, hr]
 exact hK _ _ (h v1 w1 h1 h2)
theorem V_append_step {P : Program} {ops : Array Oper} {o : Oper} {a : Act} {K : Act → World → Prop} {Q : Exit → Act → World → Prop} {E : Prop} {α : Type} (d : Kd α) {W : World} (hgd : o.guard = none) (s x : Operand) (t e : TypeId) (z : Value) (bytes : Nat)
  (ho : o.op = .call { callee := .builtin .append, args := #[s, x], argTypes := #[t, t] })
  (ht : P.underlying t = some (.slice e)) (hinfo : (P.info? e).map (fun i => (i.zero, i.size, i.bytes)) = some (some z, d.sz, bytes)) (hz : z.cells.size = d.sz) (hs0 : 0 < d.sz) (hb0 : 0 < bytes)
  (A : Option Addr) (n : Nat) (xs ys : List α) (B : Option Addr) (m c : Nat) (ok : Nat → Prop) (hs : a.eval s = .slice A n n) (hx : a.eval x = .slice B m c) (hn : n = xs.length) (hm : m = ys.length)
  (HX : F d W ok A xs.length xs) (HY : F d W ok B ys.length ys) (hl : (xs.length + ys.length) * bytes ≤ 140737488355328)
  (h : ∀ v1 w1, V d e w1 0 (fun k => ok k ∨ W.heap.size ≤ k) v1 (xs ++ ys) → Below W.heap.size W w1 → K (a.put o.dst v1) w1) :
  if Region.wanted o (yielded ops a.tmps) = true then Oper.wp P o a W K Q else E := by
 subst hn; subst hm
 have hw : Region.wanted o (yielded ops a.tmps) = true := by simp [Region.wanted, hgd]
 rw [if_pos hw]
 obtain ⟨v1, w1, hr, h1, h2⟩ := run_append_view d W t o.type e z bytes ht hinfo hz hs0 hb0 A xs ys B c ok HX HY hl
 unfold Oper.wp execOp
 simp only [ho, resolve, invoke, builtin, Sem.run_bind, Sem.run_pure, Result.andThen_ok, List.map_toArray, List.map_cons, List.map_nil, hs, hx, hr]
 exact h v1 w1 h1 h2
theorem F_one {α : Type} (d : Kd α) {W : World} {ok : Nat → Prop} {x : α} {cs : List Value} {e : TypeId} (h : FK d W ok x cs) (hc : cs.length = d.sz) :
  F d (W.alloc (.cells cs.toArray e)) (fun k => ok k ∨ W.heap.size ≤ k) (some ⟨W.heap.size, 0, none⟩) 1 [x] := by
 intro W' hW
 refine ⟨rfl, by omega, fun _ => ⟨_, rfl, fun j p hj => ?_⟩⟩
 rcases j with _ | j
 ·simp only [List.getElem?_cons_zero, Option.some.injEq] at hj
  subst hj
  refine ⟨cs, hc, h W' (fun k hk hlt => ?_), fun i u hu => ?_⟩
  ·rw [hW k (.inl hk) (by simp; omega)]
   exact heap_alloc_old W _ hlt
  ·have hb : W'.heap[W.heap.size]? = some (.cells cs.toArray e (0, 0)) := by
    rw [hW W.heap.size (.inr (Nat.le_refl _)) (by simp)]
    exact heap_alloc_new W _
   have hadd : (⟨W.heap.size, 0, none⟩ : Addr).add (0 * d.sz + i) = ⟨W.heap.size, i, none⟩ := by unfold Addr.add; split <;> simp_all
   rw [hadd, cell_of_row W' W.heap.size i cs.toArray e (0, 0) hb]
   simpa using hu
 ·simp at hj
end Go.Proofs.YtpccbmechgkogaaGreatDoor.View
