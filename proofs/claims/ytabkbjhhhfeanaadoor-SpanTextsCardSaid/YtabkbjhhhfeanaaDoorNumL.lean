/-
  layer 3: A NUMBER's TEXT, whatever text: '(span).number'.
-/
import Derived.Test.YtabkbjhhhfeanaaDoorLaid
import Derived.LoopTactic
import Derived.BigQuiet
import Derived.Outline
set_option linter.unusedVariables false
namespace Go.Proofs.YtabkbjhhhfeanaaDoor.NumL
open Go.RowKit Go.Proofs.YtabkbjhhhfeanaaDoorW.PrintWords Go.Proofs.YtabkbjhhhfeanaaDoor.PureKit Go.Proofs.YtabkbjhhhfeanaaDoor.Laid

def inB (x : Int) : Bool := decide (0 ≤ x) && decide (x ≤ 1099511627775)
/-- What a number's text is: the number, and whether it is one. -/
def numL (t : ByteArray) : Int × Bool := ((atoiF t.data.toList).1, (atoiF t.data.toList).2 && ((⟨(Lib.itoa (atoiF t.data.toList).1).toArray⟩ : ByteArray).toList == t.toList) && inB (atoiF t.data.toList).1)
theorem atoi_in (t : List UInt8) (h : (atoiF t).2 = true) : -9223372036854775808 ≤ (atoiF t).1 ∧ (atoiF t).1 ≤ 9223372036854775807 := by
  unfold atoiF at h ⊢
  cases hq : Lib.atoiAll t with
  | ok v =>
    have := Lib.atoiAll_bounds hq
    simpa [hq] using this
  | _ => simp [hq] at h
set_option maxRecDepth 100000 in
set_option maxHeartbeats 1600000 in
theorem number_all (a0 : ByteArray) (hs : a0.size ≤ 281474976710656) (w : World) (hld : LD w) :
    Calls Tryd.prog 24 #[.string a0] w fun e w' => e = .returned (.tuple #[.int .i64 (numL a0).1, .bool (numL a0).2]) ∧ Below w.heap.size w w' := by
  have CA := atoi_any a0 hs w hld
  have hin := atoi_in a0.data.toList
  unfold numL
  generalize hp : atoiF a0.data.toList = pr at *
  obtain ⟨n, ok⟩ := pr
  clear hp
  have HLD := Aside0.mk hld
  clear hld
  cases ok with
  | false =>
    simp only [Bool.false_and]
    go_enter Tryd.func24, Tryd.ntmps24
    go_wp2_with fail
    refine CA.mono ?_
    rintro e w1 ⟨v, rfl, hv, hb⟩
    rcases hv with ⟨h1, _⟩ | ⟨_, t, p, rfl⟩
    · cases h1
    · have HB := Aside0.mk hb
      clear hb CA hin
      go_wp2
      go_ret2
      exact ⟨rfl, HB.out⟩
  | true =>
    obtain ⟨h0, h1⟩ := hin rfl
    have CI := Aside0.mk (fun w1 (hb : Below w.heap.size w w1) => itoa_any n h0 h1 w1 (HLD.out.below hb))
    simp only [Bool.true_and]
    generalize hx : (⟨(Lib.itoa n).toArray⟩ : ByteArray) = x at CI
    clear hx hin h0 h1
    cases hq : (x.toList == a0.toList) with
    | false =>
      simp only [Bool.false_and]
      go_enter Tryd.func24, Tryd.ntmps24
      go_wp2_with fail
      refine CA.mono ?_
      rintro e w1 ⟨v, rfl, hv, hb⟩
      rcases hv with ⟨_, rfl⟩ | ⟨h1, _⟩
      · have HB := Aside0.mk hb
        clear hb CA
        go_wp2_with fail
        refine (CI.out _ HB.out).mono ?_
        rintro e w2 ⟨rfl, hb2⟩
        have HB2 := Aside0.mk (below_step HB.out hb2)
        clear hb2 CI HB
        go_wp2
        go_ret2
        exact ⟨rfl, HB2.out⟩
      · cases h1
    | true =>
      simp only [Bool.true_and]
      unfold inB
      by_cases p0 : 0 ≤ n
      · have p0' : decide (0 ≤ n) = true := decide_eq_true p0
        rw [p0', Bool.true_and]
        go_enter Tryd.func24, Tryd.ntmps24
        go_wp2_with fail
        refine CA.mono ?_
        rintro e w1 ⟨v, rfl, hv, hb⟩
        rcases hv with ⟨_, rfl⟩ | ⟨h1, _⟩
        · have HB := Aside0.mk hb
          clear hb CA
          go_wp2_with fail
          refine (CI.out _ HB.out).mono ?_
          rintro e w2 ⟨rfl, hb2⟩
          have HB2 := Aside0.mk (below_step HB.out hb2)
          clear hb2 CI HB
          go_wp2
          go_ret2
          exact ⟨rfl, HB2.out⟩
        · cases h1
      · have p0' : decide (0 ≤ n) = false := decide_eq_false p0
        rw [p0', Bool.false_and]
        go_enter Tryd.func24, Tryd.ntmps24
        go_wp2_with fail
        refine CA.mono ?_
        rintro e w1 ⟨v, rfl, hv, hb⟩
        rcases hv with ⟨_, rfl⟩ | ⟨h1, _⟩
        · have HB := Aside0.mk hb
          clear hb CA
          go_wp2_with fail
          refine (CI.out _ HB.out).mono ?_
          rintro e w2 ⟨rfl, hb2⟩
          have HB2 := Aside0.mk (below_step HB.out hb2)
          clear hb2 CI HB
          go_wp2
          go_ret2
          exact ⟨rfl, HB2.out⟩
        · cases h1
end Go.Proofs.YtabkbjhhhfeanaaDoor.NumL
