/- A group begins with the prefix, and ends with the delimiter, that stands nowhere between; each key that begins with it has it; it has itself. -/
import Derived.Test.YthlemogcaoehbaaPx3
import Derived.Test.YthlemogcaoehbaaNmRef
set_option linter.unusedVariables false
set_option linter.unusedSimpArgs false
namespace Go.Proofs.Ythlemogcaoehbaa.Pure
open Go.RowKit Go.Proofs.Ythlemogcaoehbaa.P Go.Proofs.YthlemogcaoehbaaW.PrintWords Go.Proofs.YthlemogcaoehbaaW.PrintLast Go.Proofs.YthlemogcaoehbaaW.PrintMore Go.Proofs.Ythlemogcaoehbaa.PureKit Go.Proofs.Ythlemogcaoehbaa.Name Go.Proofs.Ythlemogcaoehbaa.NameW Go.Proofs.Ythlemogcaoehbaa.NmSpec Go.Proofs.Ythlemogcaoehbaa.NmRef
theorem shares_loop (g pre delim more : ByteArray) (d : Nat) (hd : oc delim = [d]) (hg : g.size ≤ 1000) (p a : List Nat) (ho : oc g = p ++ (a ++ [d])) (hna : d ∉ a)
    (hend : Ev (fun k => cellarerlaw01_NameShares.l0 k pre delim more g ((g.size : Int) - 1)) true) :
    ∀ (a2 a1 : List Nat), a = a1 ++ a2 → Ev (fun k => cellarerlaw01_NameShares.l0 k pre delim more g ((p.length + a1.length : Nat) : Int)) true
  | [], a1, h => by
    have hz := size_split ho
    rw [h] at hz
    simp only [List.length_append, List.length_cons, List.length_nil] at hz
    rw [show ((p.length + a1.length : Nat) : Int) = (g.size : Int) - 1 by omega]
    exact hend
  | x :: a2, a1, h => by
    have hz := size_split ho
    rw [h] at hz
    simp only [List.length_append, List.length_cons, List.length_nil] at hz
    have ih := shares_loop g pre delim more d hd hg p a ho hna hend a2 (a1 ++ [x]) (by rw [h]; simp)
    rw [show ((p.length + (a1 ++ [x]).length : Nat) : Int) = ((p.length + a1.length : Nat) : Int) + 1 by simp only [List.length_append, List.length_cons, List.length_nil]; omega] at ih
    refine ev_succ ?_
    simp only [cellarerlaw01_NameShares.l0]
    rw [wrap_id (x := (g.size : Int) - 1) (by omega) (by omega), wrap_id (x := ((p.length + a1.length : Nat) : Int) + 1) (by omega) (by omega)]
    refine ev_pos (by omega) (ev_pos (by omega) (ev_pos (by omega) (ev_pos (by omega) (ev_neg ?_ ih))))
    rw [toList_oc, hd, oc_extract, ho, h, Int.toNat_natCast, show (((p.length + a1.length : Nat) : Int) + 1).toNat - (p.length + a1.length) = 1 by omega]
    rw [show p ++ ((a1 ++ x :: a2) ++ [d]) = (p ++ a1) ++ (x :: (a2 ++ [d])) by simp, List.drop_left' (by simp)]
    simp only [List.take_succ_cons, List.take_zero, List.cons.injEq, and_true]
    intro e
    exact hna (by rw [h, e]; simp)
theorem NameShares : cellarerlaw01_NameShares.Pure := by
  intro k0 p0 d0 m0 _
  apply Ev.rounds
  unfold cellarerlaw01_NameShares.f
  refine ev_is (key_few k0) (ev_is (key_few p0) (ev_is (key_few d0) (ev_is (key_few m0) ?_)))
  have h1 := small_cutK k0
  have h2 := small_cutK p0
  have h3 := small_cutK d0
  have h4 := small_cutK m0
  generalize cutK k0 = key at *
  generalize cutK p0 = pre at *
  generalize cutK d0 = delim at *
  generalize cutK m0 = more at *
  refine ev_bind (group_is key pre delim (by omega) (by omega)) ?_
  have none' : ∀ {A : Nat → Option Bool}, Ev (fun k => if ((⟨#[]⟩ : ByteArray), false).2 = true then A k else (if ((⟨#[]⟩ : ByteArray), false).1.toList = ([] : List UInt8) then ((cellarerlaw01_awake.f k).bind fun t179 => (some t179)) else (some false))) true :=
    ev_neg (by simp) (ev_pos (toList_nil.2 rfl) (ev_bind awake_is (ev_now _)))
  rcases grp_cases key pre delim with ⟨_, e⟩ | ⟨hok, d, hd, ⟨_, e⟩ | ⟨a, b, g, hk, hna, hg, e⟩⟩
  · rw [e]; exact none'
  · rw [e]; exact none'
  · rw [e]
    obtain ⟨o1, o2, o3, o4, o5⟩ := hok
    have hdp : Plain [d] := by rw [← hd]; exact (delimB_iff.1 o3).2
    have hgl := size_split hg
    simp only [List.length_append, List.length_cons, List.length_nil, oc_length] at hgl
    have hkl := size_split hk
    simp only [List.length_append, List.length_cons, oc_length] at hkl
    obtain ⟨q1, q2, q3⟩ := keyB_iff.1 o1
    rw [oc_length] at q1 q2
    have hgk : oc g <+: oc key := ⟨b, by rw [hg, hk]; simp⟩
    have hpg : oc pre <+: oc g := ⟨a ++ [d], hg.symm⟩
    have hkg : keyB g = true := keyB_iff.2 ⟨by rw [oc_length]; omega, by rw [oc_length]; omega, fun x hx => q3 x (hgk.subset hx)⟩
    have hself : grp g pre delim = (g, true) := by
      rw [grp_some (key := g) (a := a) (b := []) ⟨hkg, o2, o3, o4, hpg⟩ hd hg hna]
      congr 1
      apply oc_inj
      rw [oc_take, List.take_of_length_le (by rw [oc_length]; omega)]
    have fin : Ev (fun k => cellarerlaw01_NameShares.j2 k pre delim more g (!true)) true := by
      refine ev_succ ?_
      simp only [cellarerlaw01_NameShares.j2]
      refine ev_neg (by simp) (ev_pos (by omega) (ev_is rfl ?_))
      by_cases hm : keyB (g ++ more) = true
      · have hom : oc (g ++ more) = oc pre ++ (a ++ d :: oc more) := by rw [oc_append, hg]; simp
        have hall : grp (g ++ more) pre delim = (g, true) := by
          rw [grp_some (key := g ++ more) (a := a) (b := oc more) ⟨hm, o2, o3, o4, ⟨a ++ d :: oc more, hom.symm⟩⟩ hd hom hna]
          congr 1
          apply oc_inj
          rw [oc_take, oc_append, List.take_left' (by rw [oc_length]; omega)]
        have hms : (g ++ more).size ≤ 1000 := by rw [ByteArray.size_append]; omega
        refine ev_pos hm (ev_bind (group_is (g ++ more) pre delim hms (by omega)) ?_)
        rw [hall]
        exact ev_pos rfl (ev_pos rfl (ev_bind awake_is (ev_now _)))
      · exact ev_neg hm (ev_bind awake_is (ev_now _))
    have hend : Ev (fun k => cellarerlaw01_NameShares.l0 k pre delim more g ((g.size : Int) - 1)) true := by
      refine ev_succ ?_
      simp only [cellarerlaw01_NameShares.l0]
      rw [wrap_id (x := (g.size : Int) - 1) (by omega) (by omega)]
      refine ev_neg (by omega) (ev_bind (group_is g pre delim (by omega) (by omega)) ?_)
      rw [hself]
      exact ev_pos rfl fin
    have hloop := shares_loop g pre delim more d hd (by omega) (oc pre) a hg hna hend a [] rfl
    rw [oc_length] at hloop
    dsimp only
    refine ev_pos rfl (ev_neg ?_ (ev_is (under_is g pre) (ev_pos (by simpa using hpg) (ev_is (under_is key g) (ev_pos (by simpa using hgk) ?_)))))
    · rw [toList_nil, hg]
      simp
    · rw [wrap_id (x := (g.size : Int) - 1) (by omega) (by omega)]
      refine ev_pos (by omega) (ev_pos (by omega) ?_)
      have hlast : (g.extract ((g.size : Int) - 1).toNat g.size).toList = delim.toList := by
        rw [toList_oc, oc_drop, hg, hd, show ((g.size : Int) - 1).toNat = (oc pre ++ a).length by rw [List.length_append, oc_length]; omega, ← List.append_assoc, List.drop_left]
      rw [hlast, bne_self_eq_false]
      refine ev_succ ?_
      simp only [cellarerlaw01_NameShares.j0]
      refine ev_neg (by simp) ?_
      simpa using hloop
end Go.Proofs.Ythlemogcaoehbaa.Pure
