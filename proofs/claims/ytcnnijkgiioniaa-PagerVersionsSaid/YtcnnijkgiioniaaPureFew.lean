/-
  WHAT CUTS THE ARGUMENTS (law01.Few, law05.One, law05.Few, law06.Few, as printed); equality of lists, as the code's Same goes through them.
-/
import Derived.Test.YtcnnijkgiioniaaProg
import Derived.Test.YtcnnijkgiioniaaCmp
import Derived.Test.YtcnnijkgiioniaaIdxE
import Derived.Test.YtcnnijkgiioniaaIdxSpec
import Derived.Test.YtcnnijkgiioniaaPureKit
import Derived.Test.YtcnnijkgiioniaaPureRd
import Derived.Test.YtcnnijkgiioniaaPx2
import Derived.Test.YtcnnijkgiioniaaV0
namespace Go.Proofs.Ytcnnijkgiioniaa.PureFew
open Go.RowKit Go.Proofs.Ytcnnijkgiioniaa.P Go.Proofs.YtcnnijkgiioniaaW.PrintWords Go.Proofs.YtcnnijkgiioniaaW.PrintLast Go.Proofs.YtcnnijkgiioniaaW.PrintMore Go.Proofs.Ytcnnijkgiioniaa.PureKit Go.Proofs.Ytcnnijkgiioniaa.IdxSpec Go.Proofs.Ytcnnijkgiioniaa.PureRd

def cutK (s : ByteArray) : ByteArray := if s.size > 80 then s.extract 0 80 else s
def cutV (v : V) : V := ⟨v.f0, if v.f1.size > 2001 then v.f1.extract 0 2001 else v.f1, v.f2, v.f3⟩
def cutC (l : List V) : List V := (l.take 21).map cutV
def cutE (x : E) : E := ⟨cutK x.f0, cutC x.f1⟩
def cutI (l : List E) : List E := (l.take 61).map cutE
structure SmallV (v : V) : Prop where
  data : v.f1.size ≤ 2001
  id : 0 ≤ v.f0
structure SmallC (l : List V) : Prop where
  many : l.length ≤ 21
  each : ∀ v ∈ l, SmallV v
structure SmallE (x : E) : Prop where
  key : x.f0.size ≤ 80
  vers : SmallC x.f1
structure SmallI (l : List E) : Prop where
  many : l.length ≤ 61
  each : ∀ x ∈ l, SmallE x
theorem small_cutK (s : ByteArray) : (cutK s).size ≤ 80 := by
  unfold cutK
  split
  · rw [ByteArray.size_extract]; omega
  · omega
theorem small_cutC (l : List V) (h : ∀ v ∈ l, 0 ≤ v.f0) : SmallC (cutC l) := by
  refine ⟨by simp [cutC]; omega, fun v hv => ?_⟩
  obtain ⟨u, hu, rfl⟩ := List.mem_map.1 hv
  refine ⟨?_, h u (List.mem_of_mem_take hu)⟩
  unfold cutV
  dsimp only
  split
  · rw [ByteArray.size_extract]; omega
  · omega
theorem small_cutI (l : List E) (h : ∀ x ∈ l, ∀ v ∈ x.f1, 0 ≤ v.f0) : SmallI (cutI l) := by
  refine ⟨by simp [cutI]; omega, fun x hx => ?_⟩
  obtain ⟨y, hy, rfl⟩ := List.mem_map.1 hx
  exact ⟨small_cutK _, small_cutC _ (h y (List.mem_of_mem_take hy))⟩
theorem key_few (s : ByteArray) : cellarerlaw01_Few.f s = some (cutK s) := by
  unfold cellarerlaw01_Few.f cutK
  by_cases h : s.size > 80
  · rw [if_pos (by omega), if_pos (by omega), if_pos (by omega), if_pos h]
  · rw [if_neg (by omega), if_neg h]
theorem one_is (v : V) : cellarerlaw05_One.f v.f0 v.f1 v.f2 v.f3 = some (v.f0, (cutV v).f1, v.f2, v.f3) := by
  unfold cellarerlaw05_One.f cutV
  by_cases h : v.f1.size > 2001
  · rw [if_pos (by omega), if_pos (by omega), if_pos (by omega)]
    simp [h]
  · rw [if_neg (by omega)]
    simp [h]
theorem chain_loop (l : List V) : ∀ (rest pre acc : List V), l = pre ++ rest → acc.length = pre.length → pre.length ≤ 21 →
    Ev (fun k => cellarerlaw05_Few.l0 k l acc (pre.length : Int)) (acc ++ (rest.take (21 - pre.length)).map cutV)
  | [], pre, acc, h, ha, hp => by
    refine ev_succ ?_
    simp only [cellarerlaw05_Few.l0]
    refine ev_neg (by rw [h]; simp) ?_
    simpa using ev_now _
  | v :: rest, pre, acc, h, ha, hp => by
    have hlen : l.length = pre.length + rest.length + 1 := by rw [h]; simp; omega
    refine ev_succ ?_
    simp only [cellarerlaw05_Few.l0, rd50 h]
    refine ev_pos (by omega) ?_
    by_cases h21 : pre.length < 21
    · refine ev_pos (by omega) (ev_pos (by omega) (ev_is (one_is v) (ev_pos (by omega) ?_)))
      have := chain_loop l rest (pre ++ [v]) (acc ++ [cutV v]) (by simp [h]) (by simp [ha]) (by simp; omega)
      rw [wrap_id (by omega) (by omega)]
      have e : 21 - pre.length = (21 - (pre.length + 1)) + 1 := by omega
      rw [e, List.take_succ_cons, List.map_cons]
      simpa [cutV] using this
    · refine ev_neg (by omega) ?_
      have e : 21 - pre.length = 0 := by omega
      rw [e]
      simpa using ev_now _
theorem chain_few (l : List V) : Ev (fun k => cellarerlaw05_Few.f k l) (cutC l) := by
  have := chain_loop l l [] [] rfl rfl (by simp)
  simpa [cellarerlaw05_Few.f, cutC] using this
theorem index_loop (l : List E) : ∀ (rest pre acc : List E), l = pre ++ rest → acc.length = pre.length → pre.length ≤ 61 →
    Ev (fun k => cellarerlaw06_Few.l0 k l acc (pre.length : Int)) (acc ++ (rest.take (61 - pre.length)).map cutE)
  | [], pre, acc, h, ha, hp => by
    refine ev_succ ?_
    simp only [cellarerlaw06_Few.l0]
    refine ev_neg (by rw [h]; simp) ?_
    refine ev_succ ?_
    simp only [cellarerlaw06_Few.j1]
    refine ev_neg (by simp) ?_
    simpa using ev_now _
  | v :: rest, pre, acc, h, ha, hp => by
    have hlen : l.length = pre.length + rest.length + 1 := by rw [h]; simp; omega
    refine ev_succ ?_
    simp only [cellarerlaw06_Few.l0]
    refine ev_pos (by omega) (ev_succ ?_)
    simp only [cellarerlaw06_Few.j1, rd38 h]
    by_cases h61 : pre.length < 61
    · refine ev_pos (by simp; omega) (ev_pos (by omega) (ev_pos (by omega) (ev_is (key_few v.f0) (ev_bind (chain_few v.f1) (ev_pos (by omega) ?_)))))
      have := index_loop l rest (pre ++ [v]) (acc ++ [cutE v]) (by simp [h]) (by simp [ha]) (by simp; omega)
      rw [wrap_id (by omega) (by omega)]
      have e : 61 - pre.length = (61 - (pre.length + 1)) + 1 := by omega
      rw [e, List.take_succ_cons, List.map_cons]
      simpa [cutE] using this
    · refine ev_neg (by simp; omega) ?_
      have e : 61 - pre.length = 0 := by omega
      rw [e]
      simpa using ev_now _
theorem index_few (l : List E) : Ev (fun k => cellarerlaw06_Few.f k l) (cutI l) := by
  have := index_loop l l [] [] rfl rfl (by simp)
  simpa [cellarerlaw06_Few.f, cutI] using this

/-! ### The same lists -/
def eqV (a b : V) : Bool := (a.f0 == b.f0) && ((a.f1.toList == b.f1.toList) && ((a.f2 == b.f2) && (a.f3 == b.f3)))
def sameC : List V → List V → Bool
  | [], [] => true
  | a :: l, b :: m => eqV a b && sameC l m
  | _, _ => false
def sameI : List E → List E → Bool
  | [], [] => true
  | a :: l, b :: m => (a.f0.toList == b.f0.toList) && sameC a.f1 b.f1 && sameI l m
  | _, _ => false
end Go.Proofs.Ytcnnijkgiioniaa.PureFew
