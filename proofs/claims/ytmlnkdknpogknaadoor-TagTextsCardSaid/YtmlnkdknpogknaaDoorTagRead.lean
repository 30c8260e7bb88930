/-
  layer 4: A TAG's TEXT, AND OF HOW MANY IT IS: tag.Read, whatever text.
-/
import Derived.Test.YtmlnkdknpogknaaDoorPxBaseRead
import Derived.Test.YtmlnkdknpogknaaDoorLaid
import Derived.LoopTactic
import Derived.BigQuiet
import Derived.OwnWalk
import Derived.Outline
set_option linter.unusedVariables false
namespace Go.Proofs.YtmlnkdknpogknaaDoor.TagRead
open Go.RowKit Go.Proofs.YtmlnkdknpogknaaDoor.P Go.Proofs.YtmlnkdknpogknaaDoorW.PrintWords Go.Proofs.YtmlnkdknpogknaaDoor.PureKit Go.Proofs.YtmlnkdknpogknaaDoor.Laid

/-- How many, and whether it is written so. -/
def manyF (rest : ByteArray) : Int × Bool := ((atoiF rest.data.toList).1, (atoiF rest.data.toList).2 && (decide (1 ≤ (atoiF rest.data.toList).1) && (decide ((atoiF rest.data.toList).1 ≤ 100) && ((⟨(Lib.itoa (atoiF rest.data.toList).1).toArray⟩ : ByteArray).toList == rest.toList))))
def tellF (c : ByteArray × ByteArray × Bool) (p : Int × Int) : Option (Int × Int × Int) :=
  if p.2 = 0 then (if c.2.2 = true then (if c.2.1.size ≤ 281474976710656 then (if (manyF c.2.1).2 = true then some (p.1, (manyF c.2.1).1, 0) else some (0, 0, 2)) else none) else some (p.1, 0, 0)) else some (0, 0, p.2)
def readF (k : Nat) (s : ByteArray) : Option (Int × Int × Int) := (strings_Cut.f s (⟨#[45]⟩ : ByteArray)).bind fun c => (tag_Parse.f k c.1).bind fun p => tellF c p
theorem readF_mono (s : ByteArray) (k : Nat) : LeO (readF k s) (readF (k + 1) s) := by
  intro r h
  unfold readF at h ⊢
  obtain ⟨c, hc, h⟩ := Option.bind_eq_some_iff.1 h
  obtain ⟨p, hp, h⟩ := Option.bind_eq_some_iff.1 h
  rw [hc, Option.bind_some, tag_Parse.mono _ k _ hp, Option.bind_some]
  exact h
theorem atoi_in (t : List UInt8) (h : (atoiF t).2 = true) : -9223372036854775808 ≤ (atoiF t).1 ∧ (atoiF t).1 ≤ 9223372036854775807 := by
  unfold atoiF at h ⊢
  cases hq : Lib.atoiAll t with
  | ok v =>
    have := Lib.atoiAll_bounds hq
    simpa [hq] using this
  | _ => simp [hq] at h
set_option maxRecDepth 100000 in
set_option maxHeartbeats 3200000 in
theorem read_any (k : Nat) (s : ByteArray) (r1 r2 r3 : Int) (w : World) (hld : LD w) (h : readF k s = some (r1, r2, r3)) :
    Calls Tryd.prog 8 #[.string s] w fun e w' => e = .returned (.tuple #[.int .u32 r1, .int .i64 r2, .int .i64 r3]) ∧ Below w.heap.size w w' := by
  unfold readF at h
  obtain ⟨⟨hd, rest, many⟩, hc, h⟩ := Option.bind_eq_some_iff.1 h
  obtain ⟨⟨t, er⟩, hp, h⟩ := Option.bind_eq_some_iff.1 h
  have CC := strings_Cut.calls s (⟨#[45]⟩ : ByteArray) hd rest many w hc
  have CP := Aside0.mk (fun w1 : World => tag_Parse.calls k hd t er w1 hp)
  have HLD := Aside0.mk hld
  clear hc hp hld
  unfold tellF at h
  simp only at h
  by_cases he : er = 0
  · rw [if_pos he] at h
    subst he
    cases many with
    | false =>
      rw [if_neg (by simp)] at h
      simp only [Option.some.injEq, Prod.mk.injEq] at h
      obtain ⟨rfl, rfl, rfl⟩ := h
      go_enter Tryd.func8, Tryd.ntmps8
      go_wp2_with fail
      refine CC.mono ?_
      rintro e w1 ⟨rfl, hb⟩
      have HB := Aside0.mk hb
      clear hb CC
      go_wp2_with fail
      refine (CP.out _).mono ?_
      rintro e w2 ⟨rfl, hb⟩
      have HB2 := Aside0.mk (below_step HB.out hb)
      clear hb CP HB
      go_wp2
      go_ret3
      exact ⟨rfl, HB2.out⟩
    | true =>
      rw [if_pos rfl] at h
      by_cases hz : rest.size ≤ 281474976710656
      · rw [if_pos hz] at h
        have CA := Aside0.mk (fun w1 (hb : Below w.heap.size w w1) => atoi_any rest hz w1 (HLD.out.below hb))
        have hin := atoi_in rest.data.toList
        unfold manyF at h
        generalize hq : atoiF rest.data.toList = pr at *
        obtain ⟨n, ok⟩ := pr
        clear hq
        simp only at h hin
        cases ok with
        | false =>
          rw [if_neg (by simp)] at h
          simp only [Option.some.injEq, Prod.mk.injEq] at h
          obtain ⟨rfl, rfl, rfl⟩ := h
          clear hin
          go_enter Tryd.func8, Tryd.ntmps8
          go_wp2_with fail
          refine CC.mono ?_
          rintro e w1 ⟨rfl, hb⟩
          have HB := Aside0.mk hb
          clear hb CC
          go_wp2_with fail
          refine (CP.out _).mono ?_
          rintro e w2 ⟨rfl, hb⟩
          have HB2 := Aside0.mk (below_step HB.out hb)
          clear hb CP HB
          go_wp2_with fail
          refine (CA.out _ HB2.out).mono ?_
          rintro e w3 ⟨v, rfl, hv, hb⟩
          rcases hv with ⟨h1, _⟩ | ⟨_, ty, p, rfl⟩
          · cases h1
          · have HB3 := Aside0.mk (below_step HB2.out hb)
            clear hb CA HB2
            go_wp2
            go_ret3
            exact ⟨rfl, HB3.out⟩
        | true =>
          obtain ⟨h0, h1⟩ := hin rfl
          clear hin
          have CI := Aside0.mk (fun w1 (hb : Below w.heap.size w w1) => itoa_any n h0 h1 w1 (HLD.out.below hb))
          simp only [Bool.true_and] at h
          clear h0 h1
          generalize hx : (⟨(Lib.itoa n).toArray⟩ : ByteArray) = x at CI h
          clear hx
          by_cases n1 : 1 ≤ n
          · have n1' : decide (1 ≤ n) = true := decide_eq_true n1
            have n1'' : decide (n < 1) = false := decide_eq_false (by omega)
            rw [n1', Bool.true_and] at h
            clear n1 n1'
            by_cases n2 : n ≤ 100
            · have n2' : decide (n ≤ 100) = true := decide_eq_true n2
              have n2'' : decide (n > 100) = false := decide_eq_false (by omega)
              have n2''' : decide (100 < n) = false := decide_eq_false (by omega)
              rw [n2', Bool.true_and] at h
              clear n2 n2'
              cases hq : (x.toList == rest.toList) with
              | false =>
                rw [hq, if_neg (by simp)] at h
                simp only [Option.some.injEq, Prod.mk.injEq] at h
                obtain ⟨rfl, rfl, rfl⟩ := h
                go_enter Tryd.func8, Tryd.ntmps8
                go_wp2_with fail
                refine CC.mono ?_
                rintro e w1 ⟨rfl, hb⟩
                have HB := Aside0.mk hb
                clear hb CC
                go_wp2_with fail
                refine (CP.out _).mono ?_
                rintro e w2 ⟨rfl, hb⟩
                have HB2 := Aside0.mk (below_step HB.out hb)
                clear hb CP HB
                go_wp2_with fail
                refine (CA.out _ HB2.out).mono ?_
                rintro e w3 ⟨v, rfl, hv, hb⟩
                rcases hv with ⟨_, rfl⟩ | ⟨h1, _⟩
                · have HB3 := Aside0.mk (below_step HB2.out hb)
                  clear hb CA HB2
                  go_wp2_with fail
                  refine (CI.out _ HB3.out).mono ?_
                  rintro e w4 ⟨rfl, hb⟩
                  have HB4 := Aside0.mk (below_step HB3.out hb)
                  clear hb CI HB3
                  go_wp2
                  go_ret3
                  exact ⟨rfl, HB4.out⟩
                · cases h1
              | true =>
                rw [hq, if_pos rfl] at h
                simp only [Option.some.injEq, Prod.mk.injEq] at h
                obtain ⟨rfl, rfl, rfl⟩ := h
                go_enter Tryd.func8, Tryd.ntmps8
                go_wp2_with fail
                refine CC.mono ?_
                rintro e w1 ⟨rfl, hb⟩
                have HB := Aside0.mk hb
                clear hb CC
                go_wp2_with fail
                refine (CP.out _).mono ?_
                rintro e w2 ⟨rfl, hb⟩
                have HB2 := Aside0.mk (below_step HB.out hb)
                clear hb CP HB
                go_wp2_with fail
                refine (CA.out _ HB2.out).mono ?_
                rintro e w3 ⟨v, rfl, hv, hb⟩
                rcases hv with ⟨_, rfl⟩ | ⟨h1, _⟩
                · have HB3 := Aside0.mk (below_step HB2.out hb)
                  clear hb CA HB2
                  go_wp2_with fail
                  refine (CI.out _ HB3.out).mono ?_
                  rintro e w4 ⟨rfl, hb⟩
                  have HB4 := Aside0.mk (below_step HB3.out hb)
                  clear hb CI HB3
                  go_wp2
                  go_ret3
                  exact ⟨rfl, HB4.out⟩
                · cases h1
            · have n2' : decide (n ≤ 100) = false := decide_eq_false n2
              have n2'' : decide (n > 100) = true := decide_eq_true (by omega)
              have n2''' : decide (100 < n) = true := decide_eq_true (by omega)
              rw [n2', Bool.false_and, if_neg (by simp)] at h
              simp only [Option.some.injEq, Prod.mk.injEq] at h
              obtain ⟨rfl, rfl, rfl⟩ := h
              clear n2 n2' CI
              go_enter Tryd.func8, Tryd.ntmps8
              go_wp2_with fail
              refine CC.mono ?_
              rintro e w1 ⟨rfl, hb⟩
              have HB := Aside0.mk hb
              clear hb CC
              go_wp2_with fail
              refine (CP.out _).mono ?_
              rintro e w2 ⟨rfl, hb⟩
              have HB2 := Aside0.mk (below_step HB.out hb)
              clear hb CP HB
              go_wp2_with fail
              refine (CA.out _ HB2.out).mono ?_
              rintro e w3 ⟨v, rfl, hv, hb⟩
              rcases hv with ⟨_, rfl⟩ | ⟨h1, _⟩
              · have HB3 := Aside0.mk (below_step HB2.out hb)
                clear hb CA HB2
                go_wp2
                go_ret3
                exact ⟨rfl, HB3.out⟩
              · cases h1
          · have n1' : decide (1 ≤ n) = false := decide_eq_false n1
            have n1'' : decide (n < 1) = true := decide_eq_true (by omega)
            rw [n1', Bool.false_and, if_neg (by simp)] at h
            simp only [Option.some.injEq, Prod.mk.injEq] at h
            obtain ⟨rfl, rfl, rfl⟩ := h
            clear n1 n1' CI
            go_enter Tryd.func8, Tryd.ntmps8
            go_wp2_with fail
            refine CC.mono ?_
            rintro e w1 ⟨rfl, hb⟩
            have HB := Aside0.mk hb
            clear hb CC
            go_wp2_with fail
            refine (CP.out _).mono ?_
            rintro e w2 ⟨rfl, hb⟩
            have HB2 := Aside0.mk (below_step HB.out hb)
            clear hb CP HB
            go_wp2_with fail
            refine (CA.out _ HB2.out).mono ?_
            rintro e w3 ⟨v, rfl, hv, hb⟩
            rcases hv with ⟨_, rfl⟩ | ⟨h1, _⟩
            · have HB3 := Aside0.mk (below_step HB2.out hb)
              clear hb CA HB2
              go_wp2
              go_ret3
              exact ⟨rfl, HB3.out⟩
            · cases h1
      · rw [if_neg hz] at h
        cases h
  · rw [if_neg he] at h
    simp only [Option.some.injEq, Prod.mk.injEq] at h
    obtain ⟨rfl, rfl, rfl⟩ := h
    have he' : (er == 0) = false := by simpa using he
    have he'' : decide (er = 0) = false := decide_eq_false he
    clear he
    go_enter Tryd.func8, Tryd.ntmps8
    go_wp2_with fail
    refine CC.mono ?_
    rintro e w1 ⟨rfl, hb⟩
    have HB := Aside0.mk hb
    clear hb CC
    go_wp2_with fail
    refine (CP.out _).mono ?_
    rintro e w2 ⟨rfl, hb⟩
    have HB2 := Aside0.mk (below_step HB.out hb)
    clear hb CP HB
    go_wp2
    go_ret3
    exact ⟨rfl, HB2.out⟩
end Go.Proofs.YtmlnkdknpogknaaDoor.TagRead
