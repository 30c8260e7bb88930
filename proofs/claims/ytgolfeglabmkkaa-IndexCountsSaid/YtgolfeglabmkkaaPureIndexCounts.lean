/- Versions, and octets, are as many as each key's together; what is put changes them by as many. -/
import Derived.Test.YtgolfeglabmkkaaPx14
import Derived.Test.YtgolfeglabmkkaaPureGet
namespace Go.Proofs.Ytgolfeglabmkkaa.Pure
open Go.RowKit Go.Proofs.Ytgolfeglabmkkaa.P Go.Proofs.YtgolfeglabmkkaaW.PrintWords Go.Proofs.YtgolfeglabmkkaaW.PrintLast Go.Proofs.YtgolfeglabmkkaaW.PrintMore Go.Proofs.Ytgolfeglabmkkaa.PureKit Go.Proofs.Ytgolfeglabmkkaa.IdxSpec Go.Proofs.Ytgolfeglabmkkaa.IdxLaws Go.Proofs.Ytgolfeglabmkkaa.PureRd Go.Proofs.Ytgolfeglabmkkaa.PureFew Go.Proofs.Ytgolfeglabmkkaa.IdxPut Go.Proofs.Ytgolfeglabmkkaa.PureIdx Go.Proofs.Ytgolfeglabmkkaa.PureGet
theorem sum_new (c old : List V) (hc : c.length ≤ 1000) (n o m p : Nat) (was : Nat) (hb : n ≤ 1000000 ∧ m ≤ 1000000 ∧ o ≤ 1000000000 ∧ p ≤ 1000000000 ∧ was ≤ 1000000000 ∧ old.length ≤ 1000)
    (h1 : m + old.length = n + c.length) : ∀ (b a : List V) (q : Nat), c = a ++ b → q + octC b ≤ 1000000000 → p + was = o + (q + octC b) →
    Ev (fun k => cellarerlaw06_IndexCounts.l1 k c (n : Int) (o : Int) (m : Int) (p : Int) (was : Int) (q : Int) old (a.length : Int)) true
  | [], a, q, h, hq, h2 => by
    have e0 : octC [] = 0 := rfl
    rw [e0] at h2 hq
    refine ev_succ ?_
    simp only [cellarerlaw06_IndexCounts.l1]
    refine ev_neg (by rw [h]; simp) ?_
    rw [wrap_id (x := (m : Int) - (n : Int)) (by omega) (by omega), wrap_id (x := (c.length : Int) - (old.length : Int)) (by omega) (by omega), wrap_id (x := (p : Int) - (o : Int)) (by omega) (by omega), wrap_id (x := (q : Int) - (was : Int)) (by omega) (by omega)]
    exact ev_pos (by omega) (ev_pos (by omega) (ev_bind awake_is (ev_now _)))
  | v :: b, a, q, h, hq, h2 => by
    have hlen : c.length = a.length + b.length + 1 := by rw [h]; simp; omega
    rw [octC_cons] at hq h2
    refine ev_succ ?_
    simp only [cellarerlaw06_IndexCounts.l1, rd50 h]
    refine ev_pos (by omega) (ev_pos (by omega) ?_)
    rw [wrap_id (x := (a.length : Int) + 1) (by omega) (by omega), wrap_id (x := (q : Int) + (v.f1.size : Int)) (by omega) (by omega)]
    have := sum_new c old hc n o m p was hb h1 b (a ++ [v]) (q + v.f1.size) (by simp [h]) (by omega) (by omega)
    simpa using this
theorem sum_old (c old : List V) (hc : c.length ≤ 1000) (n o m p : Nat) (hb : n ≤ 1000000 ∧ m ≤ 1000000 ∧ o ≤ 1000000000 ∧ p ≤ 1000000000 ∧ octC c ≤ 1000000000 ∧ old.length ≤ 1000)
    (h1 : m + old.length = n + c.length) : ∀ (b a : List V) (q : Nat), old = a ++ b → q + octC b ≤ 1000000000 → p + (q + octC b) = o + octC c →
    Ev (fun k => cellarerlaw06_IndexCounts.l0 k c (n : Int) (o : Int) (m : Int) (p : Int) (q : Int) 0 old (a.length : Int)) true
  | [], a, q, h, hq, h2 => by
    have e0 : octC [] = 0 := rfl
    rw [e0] at h2 hq
    refine ev_succ ?_
    simp only [cellarerlaw06_IndexCounts.l0]
    refine ev_neg (by rw [h]; simp) ?_
    exact sum_new c old hc n o m p q (by omega) h1 c [] 0 rfl (by omega) (by omega)
  | v :: b, a, q, h, hq, h2 => by
    have hlen : old.length = a.length + b.length + 1 := by rw [h]; simp; omega
    rw [octC_cons] at hq h2
    refine ev_succ ?_
    simp only [cellarerlaw06_IndexCounts.l0, rd50 h]
    refine ev_pos (by omega) (ev_pos (by omega) ?_)
    rw [wrap_id (x := (a.length : Int) + 1) (by omega) (by omega), wrap_id (x := (q : Int) + (v.f1.size : Int)) (by omega) (by omega)]
    have := sum_old c old hc n o m p hb h1 b (a ++ [v]) (q + v.f1.size) (by simp [h]) (by omega) (by omega)
    simpa using this
theorem IndexCounts : cellarerlaw06_IndexCounts.Pure := by
  intro l0 key0 c0 hl hk hc
  apply Ev.rounds
  unfold cellarerlaw06_IndexCounts.f
  refine ev_bind (index_few l0) (ev_is (key_few key0) (ev_bind (chain_few c0) ?_))
  have hsl := small_cutI l0 (ids38 hl.2)
  have hsk := small_cutK key0
  have hsc := small_cutC c0 (ids50 hc.2)
  generalize cutI l0 = l at *
  generalize cutK key0 = key at *
  generalize cutC c0 = c at *
  refine ev_is (put_is l key c) ?_
  by_cases h0 : (put l key c).2 = 0
  · refine ev_pos h0 ?_
    obtain ⟨h1, h2, h3, h4, h5⟩ := put_ok h0
    obtain ⟨hI, hR, hO⟩ := index_putL h0
    have hsn := small_put hsl hsk hsc
    rw [h5] at hsn ⊢
    have hN : ∀ x ∈ l, x.f1 ≠ [] := fun x hx => okE_some (hO x hx)
    have hso := small_get key hsl
    have e1 := many_put (key := key) (c := c) hR hN
    have e2 := octs_put (key := key) (c := c) hR hN
    have b1 := many_le hsl.each
    have b2 := octs_le hsl.each
    have b3 := hsl.many
    have b4 := hsn.many
    have b5 := many_le hsn.each
    have b6 := octs_le hsn.each
    have b7 := octC_le hsc.each
    have b8 := octC_le hso.each
    have b9 := hsc.many
    have b10 := hso.many
    simp only at b4 b5 b6
    refine ev_bind (count_is l hsl) (ev_bind (count_is (putL l key c) hsn) (ev_is (get_is l key hsl) ?_))
    exact sum_old c (getL l key) (by omega) (many l) (octs l) (many (putL l key c)) (octs (putL l key c)) (by omega) (by omega) (getL l key) [] 0 rfl (by omega) (by omega)
  · exact ev_neg h0 (ev_bind awake_is (ev_now _))
end Go.Proofs.Ytgolfeglabmkkaa.Pure
