/-
  THE DOCUMENT's May of an index (layer 6, as printed); Asked (layer 7).
-/
import Derived.Test.YtcnnijkgiioniaaPx7
import Derived.Test.YtcnnijkgiioniaaPureRef
import Derived.Test.YtcnnijkgiioniaaPureFew
import Derived.Test.YtcnnijkgiioniaaPgPure
import Derived.Test.YtcnnijkgiioniaaNmRef
namespace Go.Proofs.Ytcnnijkgiioniaa.PgMay
open Go.RowKit Go.Proofs.Ytcnnijkgiioniaa.P Go.Proofs.YtcnnijkgiioniaaW.PrintWords Go.Proofs.YtcnnijkgiioniaaW.PrintLast Go.Proofs.YtcnnijkgiioniaaW.PrintMore Go.Proofs.Ytcnnijkgiioniaa.PureKit Go.Proofs.Ytcnnijkgiioniaa.IdxSpec Go.Proofs.Ytcnnijkgiioniaa.IdxLaws Go.Proofs.Ytcnnijkgiioniaa.PureRd Go.Proofs.Ytcnnijkgiioniaa.PureRef Go.Proofs.Ytcnnijkgiioniaa.PureFew Go.Proofs.Ytcnnijkgiioniaa.PgPure

theorem may_loop (l : List E) (hl : SmallI l) : ∀ (rest pre : List E), l = pre ++ rest → Ev (fun k => cellarerref06_May.l0 k l (pre.length : Int)) (rising pre.getLast? rest && decide (l.length ≤ 60))
  | [], pre, h => by
    refine ev_succ ?_
    simp only [cellarerref06_May.l0]
    refine ev_neg (by rw [h]; simp) ?_
    rw [show decide ((l.length : Int) ≤ 60) = decide (l.length ≤ 60) by apply decide_eq_decide.2; omega]
    simpa [rising] using ev_now _
  | v :: rest, pre, h => by
    have hlen : l.length = pre.length + rest.length + 1 := by rw [h]; simp; omega
    have hmany := hl.many
    have hv : SmallE v := hl.each v (by simp [h])
    have hn := may_loop l hl rest (pre ++ [v]) (by simp [h])
    rw [show (((pre ++ [v]).length : Nat) : Int) = (pre.length : Int) + 1 by simp, show (pre ++ [v]).getLast? = some v by simp] at hn
    have tail : ∀ b : Bool, rising pre.getLast? (v :: rest) = (!b && rising (some v) rest) →
        Ev (fun k => cellarerref06_May.j1 k l (pre.length : Int) b) (rising pre.getLast? (v :: rest) && decide (l.length ≤ 60)) := by
      intro b h1
      refine ev_succ ?_
      simp only [cellarerref06_May.j1]
      rw [h1]
      cases b with
      | true => exact ev_pos rfl (by simpa using ev_now _)
      | false =>
        refine ev_neg (by simp) ?_
        rw [wrap_id (by omega) (by omega)]
        simpa using hn
    refine ev_succ ?_
    simp only [cellarerref06_May.l0, rd38 h]
    refine ev_pos (by omega) (ev_pos (by omega) (ev_bind (key_is v.f0) ?_))
    cases hk : Name.keyB v.f0 with
    | false => exact ev_neg (by simp) (tail true (by simp [rising_cons, hk]))
    | true =>
      refine ev_pos rfl ?_
      by_cases h3 : v.f1 = []
      · exact ev_pos (by rw [h3]; rfl) (tail true (by simp [rising_cons, h3]))
      · have h3' : v.f1.isEmpty = false := by simpa using h3
        refine ev_neg (by have := List.length_pos_iff.2 h3; omega) (ev_bind (ref_check v.f1 (by have := hv.vers.many; omega) (fun u hu => (hv.vers.each u hu).id)) ?_)
        cases hc : chainB v.f1 with
        | false => exact ev_neg (by simp) (tail true (by simp [rising_cons, hc]))
        | true =>
          refine ev_pos rfl ?_
          rcases snoc_cases pre with rfl | ⟨pre', u, rfl⟩
          · exact ev_neg (by simp) (tail false (by simp [rising_cons, follows, hk, h3', hc]))
          · have hp : (pre' ++ [u]).length = pre'.length + 1 := by simp
            have hw : wrap64 (((pre' ++ [u]).length : Int) - 1) = (pre'.length : Int) := by rw [wrap_id (by omega) (by omega)]; omega
            have hr : rd_T50 l (pre'.length : Int) = u := rd38 (rest := v :: rest) (by simp [h])
            rw [hw, hr]
            refine ev_pos (by omega) (ev_pos (by omega) (ev_pos (by omega) ?_))
            exact tail _ (by simp [rising_cons, follows, hk, h3', hc, lt])
theorem ref_may (l : List E) (hl : SmallI l) : Ev (fun k => cellarerref06_May.f k l) (indexB l) := by
  have := may_loop l hl l [] rfl
  simpa [cellarerref06_May.f, indexB, Bool.and_comm] using this

/-- May it be asked? (The document's.) -/
theorem ref_asked (l : List E) (hl : SmallI l) (pre delim after : ByteArray) (most : Int) : Ev (fun k => cellarerref07_Asked.f k l pre delim after most) (goodB l pre after most && NameW.delimB delim) := by
  unfold cellarerref07_Asked.f goodB
  refine ev_bind (ref_may l hl) ?_
  cases h1 : indexB l with
  | false => exact ev_neg (by simp) (by simpa using ev_now _)
  | true =>
    refine ev_pos rfl (ev_bind (NmRef.ref_prefix pre) ?_)
    cases h2 : NameW.prefixB pre with
    | false => exact ev_neg (by simp) (by simpa using ev_now _)
    | true =>
      refine ev_pos rfl (ev_bind (NmRef.ref_delim delim) ?_)
      cases h3 : NameW.delimB delim with
      | false => exact ev_neg (by simp) (by simpa using ev_now _)
      | true =>
        refine ev_pos rfl ?_
        have fin : Ev (fun _ => if 0 ≤ most then some (decide (most ≤ 1000)) else some false) (decide (0 ≤ most) && decide (most ≤ 1000)) := by
          by_cases h4 : 0 ≤ most
          · exact ev_pos h4 (by rw [decide_eq_true h4]; simpa using ev_now _)
          · exact ev_neg h4 (by rw [decide_eq_false h4]; simpa using ev_now _)
        by_cases h5 : after.toList = []
        · refine ev_pos h5 ?_
          rw [decide_eq_true h5]
          simpa using fin
        · refine ev_neg h5 (ev_bind (NmRef.ref_key after) ?_)
          rw [decide_eq_false h5]
          cases h6 : Name.keyB after with
          | false => exact ev_neg (by simp) (by simpa using ev_now _)
          | true => exact ev_pos rfl (by simpa using fin)
end Go.Proofs.Ytcnnijkgiioniaa.PgMay
