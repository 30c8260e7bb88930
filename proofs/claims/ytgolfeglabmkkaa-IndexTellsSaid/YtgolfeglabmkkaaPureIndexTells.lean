/- Where any key goes, its versions, how many there are, with how many octets, and which indices are the same, is as the document says. -/
import Derived.Test.YtgolfeglabmkkaaPx15
import Derived.Test.YtgolfeglabmkkaaPx16
import Derived.Test.YtgolfeglabmkkaaPx17
import Derived.Test.YtgolfeglabmkkaaPureIdx
import Derived.Test.YtgolfeglabmkkaaPureSame
namespace Go.Proofs.Ytgolfeglabmkkaa.Pure
open Go.RowKit Go.Proofs.Ytgolfeglabmkkaa.P Go.Proofs.YtgolfeglabmkkaaW.PrintWords Go.Proofs.YtgolfeglabmkkaaW.PrintLast Go.Proofs.YtgolfeglabmkkaaW.PrintMore Go.Proofs.Ytgolfeglabmkkaa.PureKit Go.Proofs.Ytgolfeglabmkkaa.IdxSpec Go.Proofs.Ytgolfeglabmkkaa.IdxLaws Go.Proofs.Ytgolfeglabmkkaa.PureRd Go.Proofs.Ytgolfeglabmkkaa.PureFew Go.Proofs.Ytgolfeglabmkkaa.IdxPut Go.Proofs.Ytgolfeglabmkkaa.PureIdx Go.Proofs.Ytgolfeglabmkkaa.PureGet Go.Proofs.Ytgolfeglabmkkaa.PureSame Go.Proofs.Ytgolfeglabmkkaa.PureSameI
theorem ref_at (l : List E) (key : ByteArray) (hl : l.length ≤ 1000) : ∀ (rest pre : List E) (n : Nat), l = pre ++ rest → n ≤ pre.length →
    Ev (fun k => cellarerref06_At.l0 k l key (n : Int) (pre.length : Int)) ((n + at_ rest key : Nat) : Int)
  | [], pre, n, h, hn => by
    refine ev_succ ?_
    simp only [cellarerref06_At.l0]
    exact ev_neg (by rw [h]; simp) (ev_now _)
  | v :: rest, pre, n, h, hn => by
    have hlen : l.length = pre.length + rest.length + 1 := by rw [h]; simp; omega
    refine ev_succ ?_
    simp only [cellarerref06_At.l0, rd38 h]
    refine ev_pos (by omega) (ev_pos (by omega) ?_)
    rw [wrap_id (x := (pre.length : Int) + 1) (by omega) (by omega), wrap_id (x := (n : Int) + 1) (by omega) (by omega)]
    cases hlt : lt v.f0 key with
    | true =>
      refine ev_pos hlt ?_
      have := ref_at l key hl rest (pre ++ [v]) (n + 1) (by simp [h]) (by simp; omega)
      rw [show n + at_ (v :: rest) key = n + 1 + at_ rest key by simp [at_, hlt]; omega]
      simpa using this
    | false =>
      refine ev_neg (by unfold lt at hlt; rw [hlt]; simp) ?_
      have := ref_at l key hl rest (pre ++ [v]) n (by simp [h]) (by simp; omega)
      rw [show n + at_ (v :: rest) key = n + at_ rest key by simp [at_, hlt]]
      simpa using this
theorem ref_get (l : List E) (key : ByteArray) (hl : l.length ≤ 1000) : ∀ (rest pre : List E), l = pre ++ rest → Ev (fun k => cellarerref06_Get.l0 k l key (pre.length : Int)) (getL rest key)
  | [], pre, h => by
    refine ev_succ ?_
    simp only [cellarerref06_Get.l0]
    exact ev_neg (by rw [h]; simp) (ev_now _)
  | v :: rest, pre, h => by
    have hlen : l.length = pre.length + rest.length + 1 := by rw [h]; simp; omega
    refine ev_succ ?_
    simp only [cellarerref06_Get.l0, rd38 h]
    refine ev_pos (by omega) (ev_pos (by omega) ?_)
    rw [wrap_id (by omega) (by omega)]
    by_cases hh : v.f0.toList = key.toList
    · rw [show getL (v :: rest) key = v.f1 from if_pos ((has_iff key v).2 hh)]
      exact ev_pos hh (ev_now _)
    · rw [show getL (v :: rest) key = getL rest key from if_neg (fun hc => hh ((has_iff key v).1 hc))]
      refine ev_neg hh ?_
      have := ref_get l key hl rest (pre ++ [v]) (by simp [h])
      simpa using this
theorem ref_many (l : List E) (hl : SmallI l) : ∀ (rest pre : List E) (n : Nat), l = pre ++ rest → n + many rest ≤ 1000000 → Ev (fun k => cellarerref06_Many.l0 k l (n : Int) (pre.length : Int)) ((n + many rest : Nat) : Int)
  | [], pre, n, h, _ => by
    refine ev_succ ?_
    simp only [cellarerref06_Many.l0]
    refine ev_neg (by rw [h]; simp) ?_
    simpa [many] using ev_now _
  | v :: rest, pre, n, h, hn => by
    have hm := hl.many
    have hlen : l.length = pre.length + rest.length + 1 := by rw [h]; simp; omega
    rw [many_cons] at hn ⊢
    refine ev_succ ?_
    simp only [cellarerref06_Many.l0, rd38 h]
    refine ev_pos (by omega) (ev_pos (by omega) ?_)
    rw [wrap_id (x := (pre.length : Int) + 1) (by omega) (by omega), wrap_id (x := (n : Int) + (v.f1.length : Int)) (by omega) (by omega)]
    have := ref_many l hl rest (pre ++ [v]) (n + v.f1.length) (by simp [h]) (by omega)
    rw [← Nat.add_assoc]
    simpa using this
theorem ref_inner (l : List E) (hl : l.length ≤ 1000) (x : E) (pre rest : List E) (h : l = pre ++ x :: rest) (hx : x.f1.length ≤ 1000) (r : Int) : ∀ (b a : List V) (q : Nat), x.f1 = a ++ b → q + octC b ≤ 1000000000 →
    Ev (fun k => cellarerref06_Octets.l0 k l ((q + octC b : Nat) : Int) ((pre.length : Int) + 1)) r → Ev (fun k => cellarerref06_Octets.l1 k l (q : Int) (pre.length : Int) (a.length : Int)) r
  | [], a, q, hx1, hq, hn => by
    have hlen : l.length = pre.length + rest.length + 1 := by rw [h]; simp; omega
    refine ev_succ ?_
    simp only [cellarerref06_Octets.l1, rd38 h]
    refine ev_pos (by omega) (ev_pos (by omega) (ev_neg (by rw [hx1]; simp) ?_))
    rw [wrap_id (by omega) (by omega)]
    simpa [octC] using hn
  | v :: b, a, q, hx1, hq, hn => by
    have hlen : l.length = pre.length + rest.length + 1 := by rw [h]; simp; omega
    have hlx : x.f1.length = a.length + b.length + 1 := by rw [hx1]; simp; omega
    rw [octC_cons] at hq hn
    refine ev_succ ?_
    simp only [cellarerref06_Octets.l1, rd38 h, rd50 hx1]
    refine ev_pos (by omega) (ev_pos (by omega) (ev_pos (by omega) (ev_pos (by omega) ?_)))
    rw [wrap_id (x := (a.length : Int) + 1) (by omega) (by omega), wrap_id (x := (q : Int) + (v.f1.size : Int)) (by omega) (by omega)]
    have := ref_inner l hl x pre rest h hx r b (a ++ [v]) (q + v.f1.size) (by simp [hx1]) (by omega) (by rw [Nat.add_assoc]; exact hn)
    simpa using this
theorem ref_octets (l : List E) (hl : SmallI l) : ∀ (rest pre : List E) (n : Nat), l = pre ++ rest → n + octs rest ≤ 1000000000 → Ev (fun k => cellarerref06_Octets.l0 k l (n : Int) (pre.length : Int)) ((n + octs rest : Nat) : Int)
  | [], pre, n, h, _ => by
    refine ev_succ ?_
    simp only [cellarerref06_Octets.l0]
    refine ev_neg (by rw [h]; simp) ?_
    simpa [octs] using ev_now _
  | v :: rest, pre, n, h, hn => by
    have hm := hl.many
    have hv := (hl.each v (by simp [h])).vers.many
    have hlen : l.length = pre.length + rest.length + 1 := by rw [h]; simp; omega
    rw [octs_cons] at hn ⊢
    refine ev_succ ?_
    simp only [cellarerref06_Octets.l0]
    refine ev_pos (by omega) ?_
    have ih := ref_octets l hl rest (pre ++ [v]) (n + octC v.f1) (by simp [h]) (by omega)
    have := ref_inner l (by omega) v pre rest h (by omega) ((n + (octC v.f1 + octs rest) : Nat) : Int) v.f1 [] n rfl (by omega) (by
      rw [show (pre.length : Int) + 1 = (((pre ++ [v]).length : Nat) : Int) by simp, ← Nat.add_assoc]
      exact ih)
    simpa using this
theorem IndexTells : cellarerlaw06_IndexTells.Pure := by
  intro l0 m0 key0 hl hm hk
  apply Ev.rounds
  unfold cellarerlaw06_IndexTells.f
  refine ev_bind (index_few l0) (ev_bind (index_few m0) (ev_is (key_few key0) ?_))
  have hsl := small_cutI l0 (ids38 hl.2)
  generalize cutI l0 = l at *
  generalize cutI m0 = m at *
  generalize cutK key0 = key at *
  have b3 := hsl.many
  have b1 := many_le hsl.each
  have b2 := octs_le hsl.each
  have r1 := ref_at l key (by omega) l [] 0 rfl (Nat.le_refl _)
  have r2 := ref_get l key (by omega) l [] rfl
  have r3 := ref_many l hsl l [] 0 rfl (by omega)
  have r4 := ref_octets l hsl l [] 0 rfl (by omega)
  simp only [Nat.zero_add] at r1 r3 r4
  have hs := same_chain (getL l key) (getL l key) (by have := (small_get key hsl).many; omega)
  rw [sameC_refl] at hs
  refine ev_bind (count_is l hsl) (ev_bind (PureChk.at_is l key (by omega)) (ev_bind (g := fun k => cellarerref06_At.f k l key) r1 (ev_pos rfl (ev_is (get_is l key hsl) (ev_bind (g := fun k => cellarerref06_Get.f k l key) r2 (ev_bind hs (ev_pos rfl (ev_bind (g := fun k => cellarerref06_Many.f k l) r3 (ev_pos rfl (ev_bind (g := fun k => cellarerref06_Octets.f k l) r4 (ev_pos rfl (ev_is (x := sameI l m) rfl (ev_bind (same_index l m hsl) (ev_pos (by simp) (ev_bind awake_is (ev_now _))))))))))))))))
end Go.Proofs.Ytgolfeglabmkkaa.Pure
