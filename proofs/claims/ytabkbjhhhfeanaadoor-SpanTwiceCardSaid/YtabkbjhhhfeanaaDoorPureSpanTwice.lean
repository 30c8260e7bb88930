/- A span of what a span is of octets is a span of these: cut twice is as cut once, further on. -/
import Derived.Test.YtabkbjhhhfeanaaDoorPx2
import Derived.Test.YtabkbjhhhfeanaaDoorPxOpens
import Derived.Test.YtabkbjhhhfeanaaDoorSpSpec
set_option linter.unusedVariables false
set_option linter.unusedSimpArgs false
namespace Go.Proofs.YtabkbjhhhfeanaaDoor.Pure
open Go.RowKit Go.Proofs.YtabkbjhhhfeanaaDoor.P Go.Proofs.YtabkbjhhhfeanaaDoorW.PrintWords Go.Proofs.YtabkbjhhhfeanaaDoorW.PrintLast Go.Proofs.YtabkbjhhhfeanaaDoorW.PrintMore Go.Proofs.YtabkbjhhhfeanaaDoor.PureKit Go.Proofs.YtabkbjhhhfeanaaDoor.SpSpec
theorem cut_cut (d : ByteArray) (i m j n : Nat) (h1 : i + m ≤ d.size) (h2 : j + n ≤ m) : (d.extract i (i + m)).extract j (j + n) = d.extract (i + j) (i + j + n) := by
  apply oc_inj
  rw [oc_mid, oc_mid, oc_mid, List.drop_take, List.take_take, List.drop_drop]
  congr 1
  omega
theorem SpanTwice : cellarerlaw03_SpanTwice.Pure := by
  intro d0 f t o b f' t' o' b' _ hs hs'
  apply Ev.rounds
  unfold cellarerlaw03_SpanTwice.f
  refine ev_bind (few_is d0) ?_
  have hd := small_cut2 d0
  generalize cut2 d0 = d at *
  refine ev_bind (cut_is f t o b d (by omega)) ?_
  rcases of_cases f t o b (d.size : Int) with ⟨e, he, h⟩ | ⟨i, m, he, h0, h1, h2, _⟩
  · rw [cut_no he (by omega)]
    exact ev_neg (by simp only; omega) (ev_pos (toList_nil.2 rfl) (ev_bind awake_is (ev_now _)))
  · rw [cut_yes he]
    obtain ⟨i, rfl⟩ : ∃ q : Nat, i = q := ⟨i.toNat, by omega⟩
    obtain ⟨m, rfl⟩ : ∃ q : Nat, m = q := ⟨m.toNat, by omega⟩
    rw [Int.toNat_natCast, show ((i : Int) + (m : Int)).toNat = i + m by omega]
    have hes : (d.extract i (i + m)).size = m := by rw [ByteArray.size_extract]; omega
    refine ev_pos rfl (ev_bind (cut_is f' t' o' b' _ (by rw [hes]; omega)) ?_)
    rcases of_cases f' t' o' b' ((d.extract i (i + m)).size : Int) with ⟨e, he', h⟩ | ⟨j, n, he', g0, g1, g2, _⟩
    · rw [cut_no he' (by omega)]
      exact ev_neg (by simp only; omega) (ev_pos (toList_nil.2 rfl) (ev_bind awake_is (ev_now _)))
    · rw [cut_yes he']
      rw [hes] at g2
      obtain ⟨j, rfl⟩ : ∃ q : Nat, j = q := ⟨j.toNat, by omega⟩
      obtain ⟨n, rfl⟩ : ∃ q : Nat, n = q := ⟨n.toNat, by omega⟩
      rw [Int.toNat_natCast, show ((j : Int) + (n : Int)).toNat = j + n by omega]
      refine ev_pos rfl (ev_bind (of_is f t o b _ (by omega) (by omega)) (ev_bind (of_is f' t' o' b' _ (by omega) (by dsimp only; rw [hes]; omega)) ?_))
      rw [he, he']
      dsimp only
      rw [wrap_id (x := (i : Int) + j) (by omega) (by omega), wrap_id (x := (i : Int) + j + n) (by omega) (by omega), wrap_id (x := (i : Int) + j + n - 1) (by omega) (by omega)]
      refine ev_bind (cut_is _ _ _ _ d (by omega)) ?_
      rw [cut_yes (of_plain (by omega) (by omega) (by omega) (by omega))]
      refine ev_pos ?_ (ev_pos rfl (ev_bind awake_is (ev_now _)))
      dsimp only
      rw [cut_cut d i m j n (by omega) (by omega)]
      congr 2 <;> omega
end Go.Proofs.YtabkbjhhhfeanaaDoor.Pure
