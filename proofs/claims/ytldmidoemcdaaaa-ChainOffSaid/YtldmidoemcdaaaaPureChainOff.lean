/-
  THE PURE STATEMENT of ChainOff: with Off, from nothing on, there is one version at the most, the last that was put, whatever was put, and deleted.
-/
import Derived.Test.YtldmidoemcdaaaaPx13
import Derived.Test.YtldmidoemcdaaaaPxOpens
import Derived.Test.YtldmidoemcdaaaaChOrd
import Derived.Test.YtldmidoemcdaaaaChFew
import Derived.Test.YtldmidoemcdaaaaChFn
namespace Go.Proofs.Ytldmidoemcdaaaa.Pure
open Go.RowKit Go.Proofs.Ytldmidoemcdaaaa Go.Proofs.Ytldmidoemcdaaaa.P Go.Proofs.YtldmidoemcdaaaaW.PrintWords Go.Proofs.YtldmidoemcdaaaaW.PrintLast Go.Proofs.YtldmidoemcdaaaaW.PrintMore Go.Proofs.Ytldmidoemcdaaaa.PureKit Go.Proofs.Ytldmidoemcdaaaa.ChSpec Go.Proofs.Ytldmidoemcdaaaa.ChFew Go.Proofs.Ytldmidoemcdaaaa.ChOrd Go.Proofs.Ytldmidoemcdaaaa.ChFn Go.Proofs.Ytldmidoemcdaaaa.ChChk

abbrev T := S42
theorem rdA {l pre rest : List T} {v : T} (h : l = pre ++ v :: rest) : rd_T42 l (pre.length : Int) = v := by
  subst h
  simp [rd_T42]
/-- There is one version at the most, of ID 0, no younger than i. -/
inductive One (i : Int) : List V → Prop where
  | no : One i []
  | one (y : V) (h0 : y.f0 = 0) (hm : mayB y = true) (ht : y.f3 ≤ i) : One i [y]
theorem One.chain {i : Int} {c : List V} (h : One i c) : chainB c = true := by
  cases h with
  | no => rfl
  | one y h0 hm ht => simp [chainB, hm, good, later, h0]
theorem One.next {i : Int} {c : List V} (h : One i c) : One (i + 1) c := by
  cases h with
  | no => exact .no
  | one y h0 hm ht => exact .one y h0 hm (by omega)
theorem One.drop {i : Int} {c : List V} (h : One i c) : dropF c 0 = ([], if c.length = 1 then 0 else 4) := by
  unfold dropF
  rw [if_pos h.chain]
  cases h with
  | no => rfl
  | one y h0 hm ht => simp [withoutL, h0]
theorem One.put {i : Int} {c : List V} (h : One i c) (x : V) (hx : x.f3 = i) (h0 : x.f0 = 0) : putF c 0 x = if mayB x = true then ([x], 0) else ([], 1) := by
  have hel : elder c x = false := by
    cases h with
    | no => rfl
    | one y h0 hm ht => simp [elder]; omega
  have hw : withoutL c 0 = [] := by
    cases h with
    | no => rfl
    | one y h0 hm ht => simp [withoutL, h0]
  unfold putF
  by_cases hm : mayB x = true
  · rw [if_pos ⟨h.chain, .inl rfl, hm, hel⟩, if_pos hm]
    have hl : layF c 0 x = ([x], 0) := by
      unfold layF overF
      rw [if_neg (by decide), hw]
      cases x
      simp only at h0
      rw [h0]
    rw [hl]
    rfl
  · rw [if_neg (fun hh => hm hh.2.2.1), if_neg hm]
theorem off_loop (L : List T) (hL : ∀ x ∈ L, x.f2.size ≤ maxLen) : ∀ (rest pre : List T) (c : List V), L = pre ++ rest → pre.length ≤ 20 → One (pre.length : Int) c →
    Ev (fun k => cellarerlaw05_ChainOff.l0 k L c (pre.length : Int)) true
  | [], pre, c, h, hp, hc => by
    refine ev_succ ?_
    simp only [cellarerlaw05_ChainOff.l0]
    refine ev_neg (by rw [h]; simp) (ev_succ ?_)
    simp only [cellarerlaw05_ChainOff.j1]
    exact ev_neg (by simp) (ev_is (x := true) rfl (ev_now _))
  | a :: rest, pre, c, h, hp, hc => by
    have hlen : L.length = pre.length + rest.length + 1 := by rw [h]; simp; omega
    refine ev_succ ?_
    simp only [cellarerlaw05_ChainOff.l0]
    refine ev_pos (by omega) (ev_succ ?_)
    simp only [cellarerlaw05_ChainOff.j1, rdA h]
    by_cases h20 : (pre.length : Int) < 20
    · have ih : ∀ c' : List V, One (((pre ++ [a]).length : Nat) : Int) c' → Ev (fun k => cellarerlaw05_ChainOff.l0 k L c' (wrap64 ((pre.length : Int) + 1))) true := fun c' hc' => by
        have := off_loop L hL rest (pre ++ [a]) c' (by simp [h]) (by simp; omega) hc'
        rw [wrap_id (by omega) (by omega)]
        simpa using this
      have hnx : One (((pre ++ [a]).length : Nat) : Int) c := by
        have := hc.next
        simpa using this
      refine ev_pos (by simpa using h20) (ev_pos (by omega) (ev_pos (by omega) (ev_is (one_is ⟨0, a.f2, false, (pre.length : Int)⟩) ?_)))
      cases hdel : a.f1 with
      | true =>
        refine ev_pos rfl (ev_bind (del_is c 0 9 (pre.length : Int) (by decide)) ?_)
        have hd : delF c 0 9 (pre.length : Int) = ([], if c.length = 1 then 0 else 4) := by unfold delF; rw [if_pos rfl]; exact hc.drop
        rw [hd]
        by_cases h1 : c.length = 1
        · have e : (if c.length = 1 then (0 : Int) else 4) = 0 := if_pos h1
          rw [e]
          refine ev_neg (by simp [h1]) (ev_pos rfl (ev_succ ?_))
          simp only [cellarerlaw05_ChainOff.j2]
          refine ev_neg (by simp) (ev_succ ?_)
          simp only [cellarerlaw05_ChainOff.j4]
          exact ev_pos (by simp) (ih [] .no)
        · have e : (if c.length = 1 then (0 : Int) else 4) = 4 := if_neg h1
          rw [e]
          refine ev_neg (by simp; omega) (ev_neg (by decide) (ev_succ ?_))
          simp only [cellarerlaw05_ChainOff.j2]
          refine ev_neg (by simp) (ev_succ ?_)
          simp only [cellarerlaw05_ChainOff.j4]
          exact ev_neg (by simp) (ih c hnx)
      | false =>
        refine ev_neg (by simp) ?_
        have hx3 : (cutV ⟨0, a.f2, false, (pre.length : Int)⟩).f3 = (pre.length : Int) := rfl
        have hx0 : (cutV ⟨0, a.f2, false, (pre.length : Int)⟩).f0 = 0 := rfl
        have hx2 : (cutV ⟨0, a.f2, false, (pre.length : Int)⟩).f2 = false := rfl
        generalize cutV ⟨0, a.f2, false, (pre.length : Int)⟩ = x at hx3 hx0 hx2
        have hp' := put_is c 0 x (by decide)
        rw [hx0, hx2, hx3] at hp'
        refine ev_is hp' ?_
        rw [hc.put x hx3 hx0]
        by_cases hm : mayB x = true
        · have hs : (x.f1.size : Int) ≤ 2000 := by
            simp [mayB] at hm
            omega
          rw [if_pos hm]
          have hr : rd_T25 [x] 0 = x := rfl
          refine ev_neg (by simp; omega) (ev_pos rfl (ev_pos rfl (ev_pos (by simp) (ev_succ ?_))))
          rw [hr]
          simp only [cellarerlaw05_ChainOff.j3]
          refine ev_neg (by simp [hx0, hx2, hx3]) (ev_succ ?_)
          simp only [cellarerlaw05_ChainOff.j4]
          exact ev_pos (by simp) (ih [x] (.one x hx0 hm (by rw [hx3]; simp; omega)))
        · have hs : ¬ (x.f1.size : Int) ≤ 2000 := fun hs => hm (by
            simp [mayB, hx0, hx2, hx3]
            omega)
          rw [if_neg hm]
          refine ev_neg (by simp; omega) (ev_neg (by decide) (ev_succ ?_))
          simp only [cellarerlaw05_ChainOff.j3]
          refine ev_neg (by simp) (ev_succ ?_)
          simp only [cellarerlaw05_ChainOff.j4]
          exact ev_neg (by simp) (ih c hnx)
    · exact ev_neg (by simpa using h20) (ev_is (x := true) rfl (ev_now _))

/-- ∀ (l0 : List (S42)), (l0.length ≤ maxLen ∧ ∀ y1_ ∈ l0, okS42 y1_) → ∃ k, cellarerlaw05_ChainOff.f k l0 = some true -/
theorem ChainOff : cellarerlaw05_ChainOff.Pure := by
  intro l0 hl0
  apply Ev.rounds
  exact off_loop l0 (fun x hx => (hl0.2 x hx).2.2) l0 [] [] rfl (by simp) .no
end Go.Proofs.Ytldmidoemcdaaaa.Pure
