/-
  layer 6: THE PRINTED FUNCTIONS' ANSWERS in the plain words: Same, awake, Put; and what is known of the arguments.
-/
import Derived.Test.YtgolfeglabmkkaaPx9
import Derived.Test.YtgolfeglabmkkaaPxOpens
import Derived.Test.YtgolfeglabmkkaaPureChk
import Derived.Test.YtgolfeglabmkkaaPureFew
import Derived.Test.YtgolfeglabmkkaaIdxPut
namespace Go.Proofs.Ytgolfeglabmkkaa.PureIdx
open Go.RowKit Go.Proofs.Ytgolfeglabmkkaa.P Go.Proofs.YtgolfeglabmkkaaW.PrintWords Go.Proofs.YtgolfeglabmkkaaW.PrintLast Go.Proofs.YtgolfeglabmkkaaW.PrintMore Go.Proofs.Ytgolfeglabmkkaa.PureKit Go.Proofs.Ytgolfeglabmkkaa.IdxSpec Go.Proofs.Ytgolfeglabmkkaa.IdxLaws Go.Proofs.Ytgolfeglabmkkaa.PureRd Go.Proofs.Ytgolfeglabmkkaa.PureFew Go.Proofs.Ytgolfeglabmkkaa.IdxPut

theorem put_is (l : List E) (key : ByteArray) (c : List V) : index_Put.f l key c = some (put l key c) := rfl
theorem awake_is : Ev (fun k => cellarerlaw06_awake.f k) true := Ev.of cellarerlaw06_awake.mono (k := 40) (by decide +kernel)
/-! ### What came in -/
theorem ids50 {l : List V} (h : ∀ y ∈ l, okS50 y) : ∀ v ∈ l, 0 ≤ v.f0 := fun v hv => (wf_u64 (h v hv).1).1
theorem ids38 {l : List E} (h : ∀ y ∈ l, okS38 y) : ∀ x ∈ l, ∀ v ∈ x.f1, 0 ≤ v.f0 := fun x hx => ids50 (h x hx).2.2

/-! ### What is put is small -/
theorem small_new {key : ByteArray} {c : List V} (hk : key.size ≤ 80) (hc : SmallC c) : ∀ x ∈ new key c, SmallE x := by
  unfold new
  split
  · intro x hx; simp at hx
  · intro x hx
    simp at hx
    subst hx
    exact ⟨hk, hc⟩
theorem small_put {l : List E} {key : ByteArray} {c : List V} (hl : SmallI l) (hk : key.size ≤ 80) (hc : SmallC c) : SmallI (put l key c).1 := by
  have hnil : SmallI [] := ⟨by simp, fun x hx => by simp at hx⟩
  unfold put
  split
  · split
    · exact hnil
    · rename_i h
      refine ⟨by simp only; omega, fun x hx => ?_⟩
      simp only [putL, List.mem_append] at hx
      rcases hx with (hx | hx) | hx
      · exact hl.each x (List.mem_of_mem_take hx)
      · exact small_new hk hc x hx
      · exact hl.each x (List.mem_of_mem_drop hx)
  · exact hnil

/-! ### How many -/
theorem octC_le {c : List V} (h : ∀ v ∈ c, SmallV v) : octC c ≤ 2001 * c.length := by
  induction c with
  | nil => simp [octC]
  | cons v r ih =>
    have h1 := (h v (by simp)).data
    have h2 := ih (fun u hu => h u (by simp [hu]))
    simp only [octC, List.map_cons, List.sum_cons, List.length_cons] at h2 ⊢
    omega
theorem octC_cons (v : V) (b : List V) : octC (v :: b) = v.f1.size + octC b := by simp [octC]
theorem many_cons (x : E) (b : List E) : many (x :: b) = x.f1.length + many b := by simp [many]
theorem octs_cons (x : E) (b : List E) : octs (x :: b) = octC x.f1 + octs b := by simp [octs]
theorem inner_count (c : List V) (hc : c.length ≤ 1000) (L : List E) (n : Nat) (len i : Int) (hi : 0 ≤ i ∧ i ≤ 1000) (r : Int × Int) : ∀ (b a : List V) (q : Nat), c = a ++ b → q + octC b ≤ 1000000000 →
    Ev (fun k => index_Count.l0 k (n : Int) ((q + octC b : Nat) : Int) L len (i + 1)) r → Ev (fun k => index_Count.l1 k (n : Int) (q : Int) L len i c (c.length : Int) (a.length : Int)) r
  | [], a, q, h, hq, hn => by
    refine ev_succ ?_
    simp only [index_Count.l1]
    refine ev_neg (by rw [h]; simp) ?_
    rw [wrap_id (by omega) (by omega)]
    simpa [octC] using hn
  | v :: b, a, q, h, hq, hn => by
    have hlen : c.length = a.length + b.length + 1 := by rw [h]; simp; omega
    rw [octC_cons] at hq hn
    refine ev_succ ?_
    simp only [index_Count.l1, rd50 h]
    refine ev_pos (by omega) (ev_pos (by omega) (ev_pos (by omega) ?_))
    rw [wrap_id (x := (a.length : Int) + 1) (by omega) (by omega), wrap_id (x := (q : Int) + (v.f1.size : Int)) (by omega) (by omega)]
    have := inner_count c hc L n len i hi r b (a ++ [v]) (q + v.f1.size) (by simp [h]) (by omega) (by rw [Nat.add_assoc]; exact hn)
    simpa using this
theorem count_loop (l : List E) (hl : SmallI l) : ∀ (rest pre : List E) (n o : Nat), l = pre ++ rest → n + many rest ≤ 1000000 → o + octs rest ≤ 1000000000 →
    Ev (fun k => index_Count.l0 k (n : Int) (o : Int) l (l.length : Int) (pre.length : Int)) (((n + many rest : Nat) : Int), ((o + octs rest : Nat) : Int))
  | [], pre, n, o, h, _, _ => by
    refine ev_succ ?_
    simp only [index_Count.l0]
    refine ev_neg (by rw [h]; simp) ?_
    simpa [many, octs] using ev_now _
  | v :: rest, pre, n, o, h, h1, h2 => by
    have hm := hl.many
    have hv := (hl.each v (by simp [h])).vers.many
    have hlen : l.length = pre.length + rest.length + 1 := by rw [h]; simp; omega
    rw [many_cons] at h1 ⊢
    rw [octs_cons] at h2 ⊢
    refine ev_succ ?_
    simp only [index_Count.l0, rd38 h]
    refine ev_pos (by omega) (ev_pos (by omega) (ev_pos (by omega) ?_))
    rw [wrap_id (x := (n : Int) + (v.f1.length : Int)) (by omega) (by omega)]
    have ih := count_loop l hl rest (pre ++ [v]) (n + v.f1.length) (o + octC v.f1) (by simp [h]) (by omega) (by omega)
    have := inner_count v.f1 (by omega) l (n + v.f1.length) (l.length : Int) (pre.length : Int) (by omega) (((n + (v.f1.length + many rest) : Nat) : Int), ((o + (octC v.f1 + octs rest) : Nat) : Int)) v.f1 [] o rfl (by omega) (by
      rw [show (pre.length : Int) + 1 = (((pre ++ [v]).length : Nat) : Int) by simp, ← Nat.add_assoc, ← Nat.add_assoc]
      exact ih)
    simpa using this
theorem many_le : ∀ {l : List E}, (∀ x ∈ l, SmallE x) → many l ≤ 21 * l.length
  | [], _ => by simp [many]
  | x :: r, h => by
    have h1 := (h x (by simp)).vers.many
    have h2 := many_le (l := r) (fun y hy => h y (by simp [hy]))
    rw [many_cons, List.length_cons]
    omega
theorem octs_le : ∀ {l : List E}, (∀ x ∈ l, SmallE x) → octs l ≤ 42021 * l.length
  | [], _ => by simp [octs]
  | x :: r, h => by
    have h0 := (h x (by simp)).vers
    have h1 := octC_le h0.each
    have h3 := h0.many
    have h2 := octs_le (l := r) (fun y hy => h y (by simp [hy]))
    rw [octs_cons, List.length_cons]
    omega
theorem count_is (l : List E) (hl : SmallI l) : Ev (fun k => index_Count.f k l) ((many l : Int), (octs l : Int)) := by
  have h1 := many_le hl.each
  have h2 := octs_le hl.each
  have h3 := hl.many
  have := count_loop l hl l [] 0 0 rfl (by omega) (by omega)
  simpa [index_Count.f] using this
end Go.Proofs.Ytgolfeglabmkkaa.PureIdx
