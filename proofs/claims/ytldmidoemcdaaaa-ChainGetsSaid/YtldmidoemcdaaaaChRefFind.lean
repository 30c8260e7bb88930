/-
  layer 5: THE DOCUMENT's Find, Get (AS PRINTED), in ChSpec's words.
-/
import Derived.Test.YtldmidoemcdaaaaPx15
import Derived.Test.YtldmidoemcdaaaaChRef
namespace Go.Proofs.Ytldmidoemcdaaaa.ChRefFind
open Go.RowKit Go.Proofs.Ytldmidoemcdaaaa.P Go.Proofs.YtldmidoemcdaaaaW.PrintWords Go.Proofs.YtldmidoemcdaaaaW.PrintLast Go.Proofs.YtldmidoemcdaaaaW.PrintMore Go.Proofs.Ytldmidoemcdaaaa.PureKit Go.Proofs.Ytldmidoemcdaaaa.ChSpec Go.Proofs.Ytldmidoemcdaaaa.ChOrd Go.Proofs.Ytldmidoemcdaaaa.ChRef

/-- What the loop finds. -/
def fd (o : Option V) : V × Int := match o with
  | none => (zV, 4)
  | some v => (v, if v.f2 = true then 13 else 0)
theorem find_loop (l : List V) (id : Int) (hl : l.length ≤ 1000) : ∀ (rest pre : List V), l = pre ++ rest →
    Ev (fun k => cellarerref05_Find.l0 k l id (pre.length : Int)) (tup (fd (rest.find? fun x => x.f0 == id)))
  | [], pre, h => by
    refine ev_succ ?_
    simp only [cellarerref05_Find.l0]
    exact ev_neg (by rw [h]; simp) (ev_now _)
  | v :: rest, pre, h => by
    have hlen : l.length = pre.length + rest.length + 1 := by rw [h]; simp; omega
    have ih := find_loop l id hl rest (pre ++ [v]) (by simp [h])
    rw [show (((pre ++ [v]).length : Nat) : Int) = (pre.length : Int) + 1 by simp] at ih
    have tail : ∀ b : Bool, (b = true → v.f0 = id ∧ v.f2 = true) → (b = false → v.f0 = id → v.f2 = false) → Ev (fun k => cellarerref05_Find.j1 k l id (pre.length : Int) b) (tup (fd ((v :: rest).find? fun x => x.f0 == id))) := by
      intro b hb hn
      refine ev_succ ?_
      simp only [cellarerref05_Find.j1, rd50 h]
      cases b with
      | true =>
        obtain ⟨h1, h2⟩ := hb rfl
        rw [List.find?_cons_of_pos (by simpa using h1)]
        refine ev_pos rfl (ev_pos (by omega) (ev_pos (by omega) ?_))
        unfold fd tup
        simp only [h2, if_true]
        exact ev_now _
      | false =>
        refine ev_neg (by simp) (ev_pos (by omega) (ev_pos (by omega) ?_))
        by_cases h0 : v.f0 = id
        · have h2 := hn rfl h0
          rw [List.find?_cons_of_pos (by simpa using h0)]
          refine ev_pos h0 ?_
          unfold fd tup
          simp only [h2]
          exact ev_now _
        · rw [List.find?_cons_of_neg (by simpa using h0)]
          refine ev_neg h0 ?_
          rw [wrap_id (by omega) (by omega)]
          exact ih
    refine ev_succ ?_
    simp only [cellarerref05_Find.l0, rd50 h]
    refine ev_pos (by omega) (ev_pos (by omega) ?_)
    by_cases h0 : v.f0 = id
    · exact ev_pos h0 (tail v.f2 (fun hb => ⟨h0, hb⟩) (fun hb _ => hb))
    · exact ev_neg h0 (tail false (fun hb => by cases hb) (fun _ h => absurd h h0))
theorem find_ref (l : List V) (id : Int) (hl : l.length ≤ 1000) (hw : ∀ v ∈ l, 0 ≤ v.f0) : Ev (fun k => cellarerref05_Find.f k l id) (tup (findF l id)) := by
  unfold cellarerref05_Find.f findF atF
  refine ev_bind (ref_check l hl hw) ?_
  cases hc : chainB l with
  | false =>
    rw [if_neg (by simp)]
    exact ev_neg (by simp) (ev_now _)
  | true =>
    rw [if_pos rfl]
    exact ev_pos rfl (find_loop l id hl l [] rfl)
/-- The document's Get, of a chain that may be. -/
theorem get_ref (l : List V) (hl : l.length ≤ 1000) (hw : ∀ v ∈ l, 0 ≤ v.f0) : ∃ r, Ev (fun k => cellarerref05_Get.f k l) (tup r) ∧ (chainB l = true → r = getF l) := by
  cases l with
  | nil =>
    refine ⟨(zV, 4), ?_, fun _ => rfl⟩
    unfold cellarerref05_Get.f
    exact ev_pos rfl (ev_now _)
  | cons v rest =>
    refine ⟨findF (v :: rest) v.f0, ?_, fun hc => ?_⟩
    · unfold cellarerref05_Get.f
      exact ev_neg (by simp; try omega) (ev_pos (by simp; try omega) (ev_bind (find_ref (v :: rest) v.f0 hl hw) (ev_now _)))
    · unfold findF getF
      rw [List.find?_cons_of_pos (by simp)]
      rfl
end Go.Proofs.Ytldmidoemcdaaaa.ChRefFind
