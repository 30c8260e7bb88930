/-
  layer 6: THE PRINTED FUNCTIONS' ANSWERS in the plain words: Same, awake, Put; and what is known of the arguments.
-/
import Derived.Test.YtgolfeglabmkkaaPx9
import Derived.Test.YtgolfeglabmkkaaPxOpens
import Derived.Test.YtgolfeglabmkkaaPureChk
import Derived.Test.YtgolfeglabmkkaaPureFew
import Derived.Test.YtgolfeglabmkkaaIdxPut
import Derived.Test.YtgolfeglabmkkaaPx13
namespace Go.Proofs.Ytgolfeglabmkkaa.PureIdx
open Go.RowKit Go.Proofs.Ytgolfeglabmkkaa.P Go.Proofs.YtgolfeglabmkkaaW.PrintWords Go.Proofs.YtgolfeglabmkkaaW.PrintLast Go.Proofs.YtgolfeglabmkkaaW.PrintMore Go.Proofs.Ytgolfeglabmkkaa.PureKit Go.Proofs.Ytgolfeglabmkkaa.IdxSpec Go.Proofs.Ytgolfeglabmkkaa.IdxLaws Go.Proofs.Ytgolfeglabmkkaa.PureRd Go.Proofs.Ytgolfeglabmkkaa.PureFew Go.Proofs.Ytgolfeglabmkkaa.IdxPut

theorem put_is (l : List E) (key : ByteArray) (c : List V) : index_Put.f l key c = some (put l key c) := rfl
theorem awake_is : Ev (fun k => cellarerlaw06_awake.f k) true := Ev.of cellarerlaw06_awake.mono (k := 40) (by decide +kernel)
/-! ### What came in -/
theorem ids50 {l : List V} (h : ∀ y ∈ l, okS50 y) : ∀ v ∈ l, 0 ≤ v.f0 := fun v hv => (wf_u64 (h v hv).1).1
theorem ids38 {l : List E} (h : ∀ y ∈ l, okS38 y) : ∀ x ∈ l, ∀ v ∈ x.f1, 0 ≤ v.f0 := fun x hx => ids50 (h x hx).2.2

/-! ### What is put is small -/
theorem small_new {key : ByteArray} {c : List V} (hk : key.size ≤ 80) (hc : SmallC c) : ∀ x ∈ new key c, SmallE x := by
  unfold new
  split
  · intro x hx; simp at hx
  · intro x hx
    simp at hx
    subst hx
    exact ⟨hk, hc⟩
theorem small_put {l : List E} {key : ByteArray} {c : List V} (hl : SmallI l) (hk : key.size ≤ 80) (hc : SmallC c) : SmallI (put l key c).1 := by
  have hnil : SmallI [] := ⟨by simp, fun x hx => by simp at hx⟩
  unfold put
  split
  · split
    · exact hnil
    · rename_i h
      refine ⟨by simp only; omega, fun x hx => ?_⟩
      simp only [putL, List.mem_append] at hx
      rcases hx with (hx | hx) | hx
      · exact hl.each x (List.mem_of_mem_take hx)
      · exact small_new hk hc x hx
      · exact hl.each x (List.mem_of_mem_drop hx)
  · exact hnil

/-! ### How many -/
theorem octC_le {c : List V} (h : ∀ v ∈ c, SmallV v) : octC c ≤ 2001 * c.length := by
  induction c with
  | nil => simp [octC]
  | cons v r ih =>
    have h1 := (h v (by simp)).data
    have h2 := ih (fun u hu => h u (by simp [hu]))
    simp only [octC, List.map_cons, List.sum_cons, List.length_cons] at h2 ⊢
    omega
theorem octC_cons (v : V) (b : List V) : octC (v :: b) = v.f1.size + octC b := by simp [octC]
theorem many_cons (x : E) (b : List E) : many (x :: b) = x.f1.length + many b := by simp [many]
theorem octs_cons (x : E) (b : List E) : octs (x :: b) = octC x.f1 + octs b := by simp [octs]
theorem inner_count (c : List V) (hc : c.length ≤ 1000) (L : List E) (n : Nat) (len i : Int) (hi : 0 ≤ i ∧ i ≤ 1000) (r : Int × Int) : ∀ (b a : List V) (q : Nat), c = a ++ b → q + octC b ≤ 1000000000 →
    Ev (fun k => index_Count.l0 k (n : Int) ((q + octC b : Nat) : Int) L len (i + 1)) r → Ev (fun k => index_Count.l1 k (n : Int) (q : Int) L len i c (c.length : Int) (a.length : Int)) r
  | [], a, q, h, hq, hn => by
    refine ev_succ ?_
    simp only [index_Count.l1]
    refine ev_neg (by rw [h]; simp) ?_
    rw [wrap_id (by omega) (by omega)]
    simpa [octC] using hn
  | v :: b, a, q, h, hq, hn => by
    have hlen : c.length = a.length + b.length + 1 := by rw [h]; simp; omega
    rw [octC_cons] at hq hn
    refine ev_succ ?_
    simp only [index_Count.l1, rd50 h]
    refine ev_pos (by omega) (ev_pos (by omega) (ev_pos (by omega) ?_))
    rw [wrap_id (x := (a.length : Int) + 1) (by omega) (by omega), wrap_id (x := (q : Int) + (v.f1.size : Int)) (by omega) (by omega)]
    have := inner_count c hc L n len i hi r b (a ++ [v]) (q + v.f1.size) (by simp [h]) (by omega) (by rw [Nat.add_assoc]; exact hn)
    simpa using this
theorem count_loop (l : List E) (hl : SmallI l) : ∀ (rest pre : List E) (n o : Nat), l = pre ++ rest → n + many rest ≤ 1000000 → o + octs rest ≤ 1000000000 →
    Ev (fun k => index_Count.l0 k (n : Int) (o : Int) l (l.length : Int) (pre.length : Int)) (((n + many rest : Nat) : Int), ((o + octs rest : Nat) : Int))
  | [], pre, n, o, h, _, _ => by
    refine ev_succ ?_
    simp only [index_Count.l0]
    refine ev_neg (by rw [h]; simp) ?_
    simpa [many, octs] using ev_now _
  | v :: rest, pre, n, o, h, h1, h2 => by
    have hm := hl.many
    have hv := (hl.each v (by simp [h])).vers.many
    have hlen : l.length = pre.length + rest.length + 1 := by rw [h]; simp; omega
    rw [many_cons] at h1 ⊢
    rw [octs_cons] at h2 ⊢
    refine ev_succ ?_
    simp only [index_Count.l0, rd38 h]
    refine ev_pos (by omega) (ev_pos (by omega) (ev_pos (by omega) ?_))
    rw [wrap_id (x := (n : Int) + (v.f1.length : Int)) (by omega) (by omega)]
    have ih := count_loop l hl rest (pre ++ [v]) (n + v.f1.length) (o + octC v.f1) (by simp [h]) (by omega) (by omega)
    have := inner_count v.f1 (by omega) l (n + v.f1.length) (l.length : Int) (pre.length : Int) (by omega) (((n + (v.f1.length + many rest) : Nat) : Int), ((o + (octC v.f1 + octs rest) : Nat) : Int)) v.f1 [] o rfl (by omega) (by
      rw [show (pre.length : Int) + 1 = (((pre ++ [v]).length : Nat) : Int) by simp, ← Nat.add_assoc, ← Nat.add_assoc]
      exact ih)
    simpa using this
theorem many_le : ∀ {l : List E}, (∀ x ∈ l, SmallE x) → many l ≤ 21 * l.length
  | [], _ => by simp [many]
  | x :: r, h => by
    have h1 := (h x (by simp)).vers.many
    have h2 := many_le (l := r) (fun y hy => h y (by simp [hy]))
    rw [many_cons, List.length_cons]
    omega
theorem octs_le : ∀ {l : List E}, (∀ x ∈ l, SmallE x) → octs l ≤ 42021 * l.length
  | [], _ => by simp [octs]
  | x :: r, h => by
    have h0 := (h x (by simp)).vers
    have h1 := octC_le h0.each
    have h3 := h0.many
    have h2 := octs_le (l := r) (fun y hy => h y (by simp [hy]))
    rw [octs_cons, List.length_cons]
    omega
theorem count_is (l : List E) (hl : SmallI l) : Ev (fun k => index_Count.f k l) ((many l : Int), (octs l : Int)) := by
  have h1 := many_le hl.each
  have h2 := octs_le hl.each
  have h3 := hl.many
  have := count_loop l hl l [] 0 0 rfl (by omega) (by omega)
  simpa [index_Count.f] using this
end Go.Proofs.Ytgolfeglabmkkaa.PureIdx

/-
  layer 6: index.Get (as printed) is what a key has.
-/
namespace Go.Proofs.Ytgolfeglabmkkaa.PureGet
open Go.RowKit Go.Proofs.Ytgolfeglabmkkaa.P Go.Proofs.YtgolfeglabmkkaaW.PrintWords Go.Proofs.YtgolfeglabmkkaaW.PrintLast Go.Proofs.YtgolfeglabmkkaaW.PrintMore Go.Proofs.Ytgolfeglabmkkaa.PureKit Go.Proofs.Ytgolfeglabmkkaa.IdxSpec Go.Proofs.Ytgolfeglabmkkaa.IdxLaws Go.Proofs.Ytgolfeglabmkkaa.PureRd Go.Proofs.Ytgolfeglabmkkaa.PureFew Go.Proofs.Ytgolfeglabmkkaa.IdxPut Go.Proofs.Ytgolfeglabmkkaa.PureIdx

theorem getL_idx : ∀ (l : List E) (key : ByteArray), (IdxE.idx (IdxE.has key) l = -1 ∧ getL l key = []) ∨ ∃ (i : Nat) (h : i < l.length), IdxE.idx (IdxE.has key) l = (i : Int) ∧ getL l key = l[i].f1
  | [], key => .inl ⟨rfl, rfl⟩
  | x :: r, key => by
    by_cases hh : IdxE.has key x = true
    · exact .inr ⟨0, by simp, by simp [IdxE.idx, List.findIdx?_cons, hh], if_pos hh⟩
    · have e : getL (x :: r) key = getL r key := if_neg hh
      have hf : (x :: r).findIdx? (IdxE.has key) = (r.findIdx? (IdxE.has key)).map (· + 1) := by rw [List.findIdx?_cons, if_neg hh]
      rw [e]
      rcases getL_idx r key with ⟨h1, h2⟩ | ⟨i, hi, h1, h2⟩
      · refine .inl ⟨?_, h2⟩
        unfold IdxE.idx at h1 ⊢
        rw [hf]
        cases hc : r.findIdx? (IdxE.has key) with
        | none => rfl
        | some j => rw [hc] at h1; simp at h1
      · refine .inr ⟨i + 1, by simp; omega, ?_, h2⟩
        unfold IdxE.idx at h1 ⊢
        rw [hf]
        cases hc : r.findIdx? (IdxE.has key) with
        | none => rw [hc] at h1; simp at h1
        | some j =>
          rw [hc] at h1
          simp only at h1
          obtain rfl : j = i := by omega
          rfl
theorem get_is (l : List E) (key : ByteArray) (hl : SmallI l) : index_Get.f l key = some (getL l key) := by
  unfold index_Get.f index_find.f
  rcases getL_idx l key with ⟨h1, h2⟩ | ⟨i, hi, h1, h2⟩
  · rw [h1, h2]
    rfl
  · have hv := (hl.each l[i] (List.getElem_mem hi)).vers.many
    have hr : rd_T38 l (i : Int) = l[i] := by
      unfold rd_T38
      rw [Int.toNat_natCast, List.getD_eq_getElem?_getD, List.getElem?_eq_getElem hi]
      rfl
    rw [h1, h2, Option.bind_some, if_neg (by omega), if_pos (by omega), if_pos (by omega), hr]
    unfold api_Version_31.f
    rw [if_pos (by omega)]
    rfl
theorem small_get {l : List E} (key : ByteArray) (hl : SmallI l) : SmallC (getL l key) := by
  rcases getL_cases l key with ⟨x, hx, _, e⟩ | ⟨_, e⟩
  · rw [e]
    exact (hl.each x hx).vers
  · rw [e]
    exact ⟨by simp, fun v hv => by simp at hv⟩
/-- What is put where it may be. -/
theorem put_ok {l : List E} {key : ByteArray} {c : List V} (h : (put l key c).2 = 0) : indexB l = true ∧ Name.keyB key = true ∧ chainB c = true ∧ (putL l key c).length ≤ 60 ∧ put l key c = (putL l key c, 0) := by
  unfold put at h ⊢
  by_cases h1 : indexB l = true ∧ Name.keyB key = true ∧ chainB c = true
  · rw [if_pos h1] at h ⊢
    by_cases h2 : (putL l key c).length > 60
    · rw [if_pos h2] at h
      cases h
    · rw [if_neg h2]
      exact ⟨h1.1, h1.2.1, h1.2.2, by omega, rfl⟩
  · rw [if_neg h1] at h
    cases h
theorem put_no {l : List E} {key : ByteArray} {c : List V} (h : (put l key c).2 ≠ 0) : (put l key c).1 = [] := by
  unfold put at h ⊢
  by_cases h1 : indexB l = true ∧ Name.keyB key = true ∧ chainB c = true
  · rw [if_pos h1] at h ⊢
    by_cases h2 : (putL l key c).length > 60
    · rw [if_pos h2]
    · rw [if_neg h2] at h
      exact absurd rfl h
  · rw [if_neg h1]
theorem index_putL {l : List E} {key : ByteArray} {c : List V} (h : (put l key c).2 = 0) : indexB (putL l key c) = true ∧ Rise l ∧ (∀ x ∈ l, okE x = true) := by
  obtain ⟨h1, h2, h3, h4, _⟩ := put_ok h
  obtain ⟨_, h5, h6⟩ := (index_iff l).1 h1
  exact ⟨(index_iff _).2 ⟨h4, ok_putL h6 h5 h2 h3, rise_putL h6⟩, h6, h5⟩
end Go.Proofs.Ytgolfeglabmkkaa.PureGet
