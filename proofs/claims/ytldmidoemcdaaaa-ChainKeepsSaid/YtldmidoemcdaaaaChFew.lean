/-
  layer 5: WHAT CUTS THE ARGUMENTS (law05.One, law05.Few, as printed); equality of chains.
-/
import Derived.Test.YtldmidoemcdaaaaPx2
import Derived.Test.YtldmidoemcdaaaaChSpec
namespace Go.Proofs.Ytldmidoemcdaaaa.ChFew
open Go.RowKit Go.Proofs.Ytldmidoemcdaaaa.P Go.Proofs.YtldmidoemcdaaaaW.PrintWords Go.Proofs.YtldmidoemcdaaaaW.PrintLast Go.Proofs.YtldmidoemcdaaaaW.PrintMore Go.Proofs.Ytldmidoemcdaaaa.PureKit Go.Proofs.Ytldmidoemcdaaaa.ChSpec

def cutV (v : V) : V := ⟨v.f0, if v.f1.size > 2001 then v.f1.extract 0 2001 else v.f1, v.f2, v.f3⟩
def cutC (l : List V) : List V := (l.take 21).map cutV
structure SmallV (v : V) : Prop where
  data : v.f1.size ≤ 2001
  id : 0 ≤ v.f0
structure SmallC (l : List V) : Prop where
  many : l.length ≤ 21
  each : ∀ v ∈ l, SmallV v
theorem small_cutC (l : List V) (h : ∀ v ∈ l, 0 ≤ v.f0) : SmallC (cutC l) := by
  refine ⟨by simp [cutC]; omega, fun v hv => ?_⟩
  obtain ⟨u, hu, rfl⟩ := List.mem_map.1 hv
  refine ⟨?_, h u (List.mem_of_mem_take hu)⟩
  unfold cutV
  dsimp only
  split
  · rw [ByteArray.size_extract]; omega
  · omega
theorem cutC_id {l : List V} (h : SmallC l) : cutC l = l := by
  unfold cutC
  rw [List.take_of_length_le h.many]
  conv => rhs; rw [← List.map_id l]
  apply List.map_congr_left
  intro v hv
  have := (h.each v hv).data
  cases v
  simp only [cutV, id]
  rw [if_neg (by simpa using this)]
theorem one_is (v : V) : cellarerlaw05_One.f v.f0 v.f1 v.f2 v.f3 = some (v.f0, (cutV v).f1, v.f2, v.f3) := by
  unfold cellarerlaw05_One.f cutV
  by_cases h : v.f1.size > 2001
  · rw [if_pos (by omega), if_pos (by omega), if_pos (by omega)]
    simp [h]
  · rw [if_neg (by omega)]
    simp [h]
theorem chain_loop (l : List V) : ∀ (rest pre acc : List V), l = pre ++ rest → acc.length = pre.length → pre.length ≤ 21 →
    Ev (fun k => cellarerlaw05_Few.l0 k l acc (pre.length : Int)) (acc ++ (rest.take (21 - pre.length)).map cutV)
  | [], pre, acc, h, ha, hp => by
    refine ev_succ ?_
    simp only [cellarerlaw05_Few.l0]
    refine ev_neg (by rw [h]; simp) ?_
    simpa using ev_now _
  | v :: rest, pre, acc, h, ha, hp => by
    have hlen : l.length = pre.length + rest.length + 1 := by rw [h]; simp; omega
    refine ev_succ ?_
    simp only [cellarerlaw05_Few.l0, rd50 h]
    refine ev_pos (by omega) ?_
    by_cases h21 : pre.length < 21
    · refine ev_pos (by omega) (ev_pos (by omega) (ev_is (one_is v) (ev_pos (by omega) ?_)))
      have := chain_loop l rest (pre ++ [v]) (acc ++ [cutV v]) (by simp [h]) (by simp [ha]) (by simp; omega)
      rw [wrap_id (by omega) (by omega)]
      have e : 21 - pre.length = (21 - (pre.length + 1)) + 1 := by omega
      rw [e, List.take_succ_cons, List.map_cons]
      simpa [cutV] using this
    · refine ev_neg (by omega) ?_
      have e : 21 - pre.length = 0 := by omega
      rw [e]
      simpa using ev_now _
theorem chain_few (l : List V) : Ev (fun k => cellarerlaw05_Few.f k l) (cutC l) := by
  have := chain_loop l l [] [] rfl rfl (by simp)
  simpa [cellarerlaw05_Few.f, cutC] using this
/-! ### The same lists -/
theorem toList_inj {s t : ByteArray} (h : s.toList = t.toList) : s = t := by
  rw [ByteArray.toList_eq, ByteArray.toList_eq] at h
  cases s with | mk a => cases t with | mk b =>
  congr 1
  exact Array.ext' h
def eqV (a b : V) : Bool := (a.f0 == b.f0) && ((a.f1.toList == b.f1.toList) && ((a.f2 == b.f2) && (a.f3 == b.f3)))
theorem eqV_iff (a b : V) : eqV a b = true ↔ a = b := by
  constructor
  · intro h
    simp only [eqV, Bool.and_eq_true, beq_iff_eq] at h
    cases a; cases b
    simp only at h
    obtain ⟨rfl, h1, rfl, rfl⟩ := h
    rw [toList_inj h1]
  · rintro rfl
    simp [eqV]
def sameC : List V → List V → Bool
  | [], [] => true
  | a :: l, b :: m => eqV a b && sameC l m
  | _, _ => false
theorem sameC_iff : ∀ a b : List V, sameC a b = true ↔ a = b
  | [], [] => by simp [sameC]
  | [], _ :: _ => by simp [sameC]
  | _ :: _, [] => by simp [sameC]
  | a :: l, b :: m => by simp [sameC, eqV_iff, sameC_iff l m]
theorem sameC_len : ∀ a b : List V, a.length ≠ b.length → sameC a b = false
  | [], [], h => by simp at h
  | [], _ :: _, _ => rfl
  | _ :: _, [], _ => rfl
  | a :: l, b :: m, h => by simp [sameC, sameC_len l m (by simpa using h)]
theorem sameC_refl (a : List V) : sameC a a = true := (sameC_iff a a).2 rfl
end Go.Proofs.Ytldmidoemcdaaaa.ChFew
