/-
  layer 5: WHAT THE FUNCTIONS OF A CHAIN SAY, in plain words: when a version, a chain may be; what is put, deleted, dropped, got, found.
-/
import Derived.Test.YtldmidoemcdaaaaPx0
import Derived.Test.YtldmidoemcdaaaaPureKit
namespace Go.Proofs.Ytldmidoemcdaaaa.ChSpec
open Go.RowKit Go.Proofs.Ytldmidoemcdaaaa.P Go.Proofs.YtldmidoemcdaaaaW.PrintWords Go.Proofs.Ytldmidoemcdaaaa.PureKit

abbrev V := S25
/-- May a version be? -/
def mayB (v : V) : Bool := decide (v.f0 ≤ 281474976710655) && decide ((v.f1.size : Int) ≤ 2000) && (!v.f2 || decide (v.f1.toList = [])) && decide (0 ≤ v.f3) && decide (v.f3 ≤ 1099511627775)
/-- Is it younger than the one ahead? -/
def later (prev : Option V) (v : V) : Bool := match prev with
  | some u => decide (u.f3 < v.f3)
  | none => false
/-- The chain's order, as the code goes through it: the last ID that is not 0, whether 0 was there, the version ahead. -/
def good (last : Int) (null : Bool) (prev : Option V) : List V → Bool
  | [] => true
  | v :: r => if later prev v = true then false
    else if v.f0 = 0 then (if null = true then false else if v.f0 ≥ last then false else good last true (some v) r)
    else if v.f0 ≥ last then false else good v.f0 null (some v) r
theorem good_cons (last : Int) (null : Bool) (prev : Option V) (v : V) (r : List V) : good last null prev (v :: r) = (if later prev v = true then false
    else if v.f0 = 0 then (if null = true then false else if v.f0 ≥ last then false else good last true (some v) r)
    else if v.f0 ≥ last then false else good v.f0 null (some v) r) := rfl
/-- May a chain be? -/
def chainB (l : List V) : Bool := decide (l.length ≤ 20) && l.all mayB && good 281474976710656 false none l

/-! ### What is laid -/
/-- Ahead of all others. -/
def aheadF (l : List V) (x : V) : List V × Int := if x.f0 = 0 then ([], 1) else if l.any (fun y => decide (y.f0 ≥ x.f0)) = true then ([], 9) else (x :: l, 0)
/-- The chain without a version. -/
def withoutL (l : List V) (id : Int) : List V := l.filter fun x => !(x.f0 == id)
/-- In place of the one that is written over. -/
def overF (l : List V) (x : V) : List V × Int := ({ x with f0 := 0 } :: withoutL l 0, 0)
/-- Is it elder than the latest? -/
def elder (l : List V) (x : V) : Bool := match l with
  | [] => false
  | y :: _ => decide (x.f3 < y.f3)
def layF (l : List V) (state : Int) (x : V) : List V × Int := if state = 1 then aheadF l x else overF l x
/-- What is put, and the error. -/
def putF (l : List V) (state : Int) (x : V) : List V × Int :=
  if chainB l = true ∧ (state = 0 ∨ state = 1 ∨ state = 2) ∧ mayB x = true ∧ elder l x = false then
    (if (layF l state x).2 ≠ 0 then ([], (layF l state x).2) else if (layF l state x).1.length > 20 then ([], 6) else ((layF l state x).1, 0))
  else ([], 1)

/-- What is taken away, and the error. -/
def dropF (l : List V) (id : Int) : List V × Int := if chainB l = true then (if l.any (fun x => x.f0 == id) = true then (withoutL l id, 0) else ([], 4)) else ([], 1)
/-- What is deleted, and the error. -/
def delF (l : List V) (state id t : Int) : List V × Int := if state = 0 then dropF l 0 else putF l state ⟨if state = 2 then 0 else id, ⟨#[]⟩, true, t⟩
/-- No version. -/
def zV : V := ⟨0, ⟨#[]⟩, false, 0⟩
/-- A version of a chain, and the error. -/
def atF (l : List V) (o : Option V) : V × Int := if chainB l = true then (match o with
  | none => (zV, 4)
  | some v => (v, if v.f2 = true then 13 else 0)) else (zV, 1)
def getF (l : List V) : V × Int := atF l l.head?
def findF (l : List V) (id : Int) : V × Int := atF l (l.find? fun x => x.f0 == id)
def tup (r : V × Int) : Int × ByteArray × Bool × Int × Int := (r.1.f0, r.1.f1, r.1.f2, r.1.f3, r.2)

/-! ### The document's checks -/
def clash (v u : V) : Bool := (decide (v.f0 = 0) && decide (u.f0 = 0)) || (!decide (v.f0 = 0) && !decide (u.f0 = 0) && decide (u.f0 ≤ v.f0))
def refGood (pre : List V) : List V → Bool
  | [] => true
  | v :: r => mayB v && !later pre.getLast? v && !(pre.any (clash v)) && refGood (pre ++ [v]) r
def refChain (l : List V) : Bool := refGood [] l && decide (l.length ≤ 20)
theorem refGood_may : ∀ (l pre : List V), refGood pre l = true → l.all mayB = true
  | [], _, _ => rfl
  | v :: r, pre, h => by
    simp only [refGood, Bool.and_eq_true] at h
    simp [h.1.1.1, refGood_may r _ h.2]
/-- What the code keeps of what is ahead. -/
structure Inv (pre : List V) (last : Int) (null : Bool) : Prop where
  pos : 0 < last
  null : null = pre.any (fun u => decide (u.f0 = 0))
  least : ∀ u ∈ pre, u.f0 ≠ 0 → last ≤ u.f0
  is : last = 281474976710656 ∨ ∃ u ∈ pre, u.f0 = last
theorem good_eq : ∀ (l pre : List V) (last : Int) (null : Bool), Inv pre last null → (∀ v ∈ l, 0 ≤ v.f0) → l.all mayB = true → good last null pre.getLast? l = refGood pre l
  | [], _, _, _, _, _, _ => rfl
  | v :: r, pre, last, null, hI, hw, hm => by
    have hm' : mayB v = true ∧ r.all mayB = true := by simpa using hm
    have hv : v.f0 ≤ 281474976710655 := by have := hm'.1; simp [mayB] at this; exact this.1.1.1.1
    have h0 := hw v (by simp)
    have hlast : (pre ++ [v]).getLast? = some v := by simp
    rw [good_cons, refGood, hm'.1]
    cases hb : later pre.getLast? v with
    | true => simp
    | false =>
      rw [if_neg (by simp)]
      simp only [Bool.not_false, Bool.and_self, Bool.true_and]
      by_cases hz : v.f0 = 0
      · rw [if_pos hz]
        have hc : pre.any (clash v) = null := by
          rw [hI.null]
          congr 1
          funext u
          simp [clash, hz]
        rw [hc]
        cases null with
        | true => simp
        | false =>
          rw [if_neg (by simp), if_neg (by have := hI.pos; omega)]
          simp only [Bool.not_false, Bool.true_and]
          rw [← hlast]
          exact good_eq r (pre ++ [v]) last true ⟨hI.pos, by simp [hz], fun u hu hn => by
            rcases List.mem_append.1 hu with hu | hu
            · exact hI.least u hu hn
            · simp at hu; subst hu; exact absurd hz hn, hI.is.imp_right (fun ⟨u, hu, e⟩ => ⟨u, by simp [hu], e⟩)⟩ (fun u hu => hw u (by simp [hu])) hm'.2
      · rw [if_neg hz]
        by_cases hge : v.f0 ≥ last
        · rw [if_pos hge]
          have hc : pre.any (clash v) = true := by
            rcases hI.is with e | ⟨u, hu, e⟩
            · omega
            · have := hI.pos
              exact List.any_eq_true.2 ⟨u, hu, by simp [clash, hz, show u.f0 ≠ 0 by omega, show u.f0 ≤ v.f0 by omega]⟩
          simp [hc]
        · rw [if_neg hge]
          have hc : pre.any (clash v) = false := by
            rw [List.any_eq_false]
            intro u hu
            by_cases hu0 : u.f0 = 0
            · simp [clash, hz, hu0]
            · have := hI.least u hu hu0
              simp [clash, hz, hu0, show ¬ u.f0 ≤ v.f0 by omega]
          simp only [hc, Bool.not_false, Bool.true_and]
          rw [← hlast]
          exact good_eq r (pre ++ [v]) v.f0 null ⟨by omega, by simp [hz, hI.null], fun u hu hn => by
            rcases List.mem_append.1 hu with hu | hu
            · have := hI.least u hu hn; omega
            · simp at hu; subst hu; omega, .inr ⟨v, by simp, rfl⟩⟩ (fun u hu => hw u (by simp [hu])) hm'.2
theorem chain_eq (l : List V) (hw : ∀ v ∈ l, 0 ≤ v.f0) : refChain l = chainB l := by
  unfold refChain chainB
  cases hm : l.all mayB with
  | false =>
    have : refGood [] l = false := by
      cases h : refGood [] l with
      | false => rfl
      | true => rw [refGood_may l [] h] at hm; cases hm
    simp [this]
  | true =>
    rw [← good_eq l [] 281474976710656 false ⟨by omega, rfl, fun u hu => by simp at hu, .inl rfl⟩ hw hm]
    simp [Bool.and_comm]

/-! ### Reading a list where it is split -/
theorem ev_succ {α : Type} {g : Nat → Option α} {r : α} (h : Ev (fun k => g (k + 1)) r) : Ev g r := ev_step (fun _ => rfl) h
theorem snoc_cases {α : Type} (l : List α) : l = [] ∨ ∃ l' u, l = l' ++ [u] := by
  rcases List.eq_nil_or_concat l with h | ⟨l', u, h⟩
  · exact .inl h
  · exact .inr ⟨l', u, by simpa using h⟩
theorem rd50 {l pre rest : List V} {v : V} (h : l = pre ++ v :: rest) : rd_T25 l (pre.length : Int) = v := by
  subst h
  simp [rd_T25]
end Go.Proofs.Ytldmidoemcdaaaa.ChSpec
