/- A key has a group under a prefix just if the delimiter stands behind it; a longer prefix of the group has no shorter one. -/
import Derived.Test.YthlemogcaoehbaaPx4
import Derived.Test.YthlemogcaoehbaaNmRef
set_option linter.unusedVariables false
set_option linter.unusedSimpArgs false
namespace Go.Proofs.Ythlemogcaoehbaa.Pure
open Go.RowKit Go.Proofs.Ythlemogcaoehbaa.P Go.Proofs.YthlemogcaoehbaaW.PrintWords Go.Proofs.YthlemogcaoehbaaW.PrintLast Go.Proofs.YthlemogcaoehbaaW.PrintMore Go.Proofs.Ythlemogcaoehbaa.PureKit Go.Proofs.Ythlemogcaoehbaa.Name Go.Proofs.Ythlemogcaoehbaa.NameW Go.Proofs.Ythlemogcaoehbaa.NmSpec Go.Proofs.Ythlemogcaoehbaa.NmRef
theorem one_at {key delim : ByteArray} {d x : Nat} (hd : oc delim = [d]) {pre rest : List Nat} (h : oc key = pre ++ x :: rest) :
    ((key.extract ((pre.length : Nat) : Int).toNat (((pre.length : Nat) : Int) + 1).toNat).toList == delim.toList) = decide (x = d) := by
  rw [Bool.eq_iff_iff, beq_iff_eq, decide_eq_true_iff, toList_oc, hd, oc_extract, h, Int.toNat_natCast, List.drop_left, show ((pre.length : Int) + 1).toNat - pre.length = 1 by omega]
  simp
/-- Behind the loop that looks for the delimiter: each longer prefix. -/
theorem longer' (key delim : ByteArray) (g : ByteArray) (is : Bool) (hk : key.size ≤ 80) (q : Nat)
    (hall : is = true → ∀ n : Nat, q ≤ n → n ≤ key.size → (n < g.size → (grp key (key.extract 0 n) delim).1 = g) ∧ (g.size ≤ n → (grp key (key.extract 0 n) delim).2 = true → g.size < (grp key (key.extract 0 n) delim).1.size)) :
    ∀ (m n : Nat), q ≤ n → n + m = key.size + 1 → Ev (fun k => cellarerlaw01_NameCuts.l1 k key delim g is (n : Int)) true
  | 0, n, _, h => by
    refine ev_succ ?_
    simp only [cellarerlaw01_NameCuts.l1]
    refine ev_neg (by omega) ?_
    refine ev_succ ?_
    simp only [cellarerlaw01_NameCuts.j3]
    exact ev_neg (by simp) (ev_bind awake_is (ev_now _))
  | m + 1, n, hq, h => by
    have ih := longer' key delim g is hk q hall m (n + 1) (by omega) (by omega)
    refine ev_succ ?_
    simp only [cellarerlaw01_NameCuts.l1]
    refine ev_pos (by omega) ?_
    refine ev_succ ?_
    simp only [cellarerlaw01_NameCuts.j3]
    cases his : is with
    | false => exact ev_neg (by simp) (ev_bind awake_is (ev_now _))
    | true =>
      rw [his] at ih
      obtain ⟨ha, hb⟩ := hall his n hq (by omega)
      have hes : (key.extract 0 n).size ≤ 1000 := by rw [ByteArray.size_extract]; omega
      have next : Ev (fun k => cellarerlaw01_NameCuts.j4 k key delim g true (n : Int) false) true := by
        refine ev_succ ?_
        simp only [cellarerlaw01_NameCuts.j4]
        refine ev_neg (by simp) ?_
        rw [wrap_id (by omega) (by omega)]
        simpa using ih
      refine ev_pos rfl (ev_pos (by omega) (ev_pos (by omega) ?_))
      rw [Int.toNat_natCast]
      refine ev_bind (group_is key (key.extract 0 n) delim (by omega) hes) ?_
      have behind : Ev (fun k => if (n : Int) ≥ (g.size : Int) then (if (grp key (key.extract 0 n) delim).2 = true then (cellarerlaw01_NameCuts.j4 k key delim g true (n : Int) (decide (((grp key (key.extract 0 n) delim).1.size : Int) ≤ (g.size : Int)))) else (cellarerlaw01_NameCuts.j4 k key delim g true (n : Int) false)) else (cellarerlaw01_NameCuts.j4 k key delim g true (n : Int) false)) true := by
        by_cases hn : (n : Int) ≥ (g.size : Int)
        · refine ev_pos hn ?_
          by_cases h2 : (grp key (key.extract 0 n) delim).2 = true
          · refine ev_pos h2 ?_
            have := hb (by omega) h2
            rw [decide_eq_false (by omega)]
            exact next
          · exact ev_neg h2 next
        · exact ev_neg hn next
      by_cases hn : (n : Int) < (g.size : Int)
      · refine ev_pos hn (ev_pos ?_ behind)
        rw [ha (by omega)]
      · exact ev_neg hn behind
/-- The loop that looks for the delimiter. -/
theorem looks (key pre delim g : ByteArray) (is : Bool) (d : Nat) (hk : key.size ≤ 80) (hd : oc delim = [d])
    (hend : Ev (fun k => cellarerlaw01_NameCuts.l1 k key delim g is (pre.size : Int)) true) :
    ∀ (rest p : List Nat) (st : Bool), oc key = p ++ rest → is = (st || decide (d ∈ rest)) → Ev (fun k => cellarerlaw01_NameCuts.l0 k key pre delim g is st (p.length : Int)) true
  | [], p, st, h, his => by
    have := size_split h
    refine ev_succ ?_
    simp only [cellarerlaw01_NameCuts.l0]
    refine ev_neg (by simp at this; omega) (ev_neg ?_ hend)
    rw [his]
    simp
  | x :: rest, p, st, h, his => by
    have hz := size_split h
    simp only [List.length_append, List.length_cons] at hz
    refine ev_succ ?_
    simp only [cellarerlaw01_NameCuts.l0]
    refine ev_pos (by omega) ?_
    rw [wrap_id (by omega) (by omega)]
    cases hst : st with
    | true =>
      have ih := looks key pre delim g is d hk hd hend rest (p ++ [x]) true (by simp [h]) (by rw [his, hst]; simp)
      refine ev_pos rfl ?_
      rw [show (((p ++ [x]).length : Nat) : Int) = (p.length : Int) + 1 by simp] at ih
      exact ih
    | false =>
      rw [hst] at his
      have ih := looks key pre delim g is d hk hd hend rest (p ++ [x]) (decide (x = d)) (by simp [h]) (by
        rw [his, Bool.eq_iff_iff]
        simp only [Bool.false_or, Bool.or_eq_true, decide_eq_true_iff, List.mem_cons]
        exact ⟨fun h => h.imp Eq.symm id, fun h => h.imp Eq.symm id⟩)
      refine ev_neg (by simp) (ev_pos (by omega) (ev_pos (by omega) (ev_pos (by omega) ?_)))
      rw [one_at hd h]
      rw [show (((p ++ [x]).length : Nat) : Int) = (p.length : Int) + 1 by simp] at ih
      exact ih
theorem cuts (key pre delim : ByteArray) (d : Nat) (h1 : key.size ≤ 80) (h2 : pre.size ≤ 80) (hok : Ok key pre delim) (hd : oc delim = [d]) :
    Ev (fun k => cellarerlaw01_NameCuts.l0 k key pre delim (grp key pre delim).1 (grp key pre delim).2 false (pre.size : Int)) true := by
  have hpl : pre.size ≤ key.size := by
    have := hok.2.2.2.2.length_le
    rwa [oc_length, oc_length] at this
  have hbelow : ∀ n : Nat, oc (key.extract 0 n) <+: oc key := fun n => by rw [oc_take]; exact List.take_prefix _ _
  have hokn : ∀ n : Nat, Ok key (key.extract 0 n) delim := fun n => ⟨hok.1, prefixB_iff.2 ⟨by have := (keyB_iff.1 hok.1).2.1; rw [oc_take, List.length_take]; omega, fun x hx => (keyB_iff.1 hok.1).2.2 x ((hbelow n).subset hx)⟩, hok.2.2.1, hok.2.2.2.1, hbelow n⟩
  have go : ∀ (g : ByteArray) (is : Bool), is = decide (d ∈ (oc key).drop pre.size) →
      (is = true → ∀ n : Nat, pre.size ≤ n → n ≤ key.size → (n < g.size → (grp key (key.extract 0 n) delim).1 = g) ∧ (g.size ≤ n → (grp key (key.extract 0 n) delim).2 = true → g.size < (grp key (key.extract 0 n) delim).1.size)) →
      Ev (fun k => cellarerlaw01_NameCuts.l0 k key pre delim g is false (pre.size : Int)) true := fun g is his hall => by
    have hl : ∀ m n : Nat, pre.size ≤ n → n + m = key.size + 1 → Ev (fun k => cellarerlaw01_NameCuts.l1 k key delim g is (n : Int)) true := fun m n _ hm => by
      refine longer' key delim g is h1 pre.size hall m n ?_ hm
      assumption
    have := looks key pre delim g is d h1 hd (hl (key.size + 1 - pre.size) pre.size (Nat.le_refl _) (by omega)) ((oc key).drop pre.size) (oc pre) false hok.rest (by rw [his]; simp)
    rwa [oc_length] at this
  rcases grp_cases key pre delim with ⟨hn, _⟩ | ⟨_, d', hd', ⟨hn, e⟩ | ⟨a, b, g, hk, hna, hg, e⟩⟩
  · exact absurd hok hn
  · have : d' = d := by rw [hd] at hd'; simpa using hd'.symm
    subst this
    rw [e]
    exact go _ false (by simp [hn]) (fun h => by cases h)
  · have : d' = d := by rw [hd] at hd'; simpa using hd'.symm
    subst this
    rw [e]
    have hgl := size_split hg
    simp only [List.length_append, List.length_cons, List.length_nil, oc_length] at hgl
    refine go g true (by rw [hk, ← oc_length, List.drop_left]; simp) (fun _ n hp hn => ⟨fun hlt => ?_, fun hge h2 => ?_⟩)
    · -- the prefix ends ahead of the delimiter
      have hn' : oc (key.extract 0 n) = oc pre ++ a.take (n - pre.size) := by
        rw [oc_take, hk, List.take_append, oc_length, List.take_of_length_le (by rw [oc_length]; omega)]
        congr 1
        rw [List.take_append_of_le_length (by omega)]
      have hk' : oc key = oc (key.extract 0 n) ++ (a.drop (n - pre.size) ++ d' :: b) := by
        rw [hn', hk, List.append_assoc, ← List.append_assoc (a.take _), List.take_append_drop]
      rw [grp_some (hokn n) hd hk' (fun hm => hna (List.mem_of_mem_drop hm))]
      apply oc_inj
      rw [oc_grp hk', hn', hg, List.append_assoc, ← List.append_assoc (a.take _), List.take_append_drop]
    · rcases grp_cases key (key.extract 0 n) delim with ⟨hx, _⟩ | ⟨_, d2, hd2, ⟨_, e2⟩ | ⟨a2, b2, g2, hk2, hna2, hg2, e2⟩⟩
      · exact absurd (hokn n) hx
      · rw [e2] at h2
        cases h2
      · rw [e2]
        have hgl2 := size_split hg2
        simp only [List.length_append, List.length_cons, List.length_nil, oc_length] at hgl2
        have hes : (key.extract 0 n).size = n := by rw [ByteArray.size_extract]; omega
        simp only
        omega
theorem NameCuts : cellarerlaw01_NameCuts.Pure := by
  intro k0 p0 d0 _ _ _
  apply Ev.rounds
  unfold cellarerlaw01_NameCuts.f
  refine ev_is (key_few k0) (ev_is (key_few p0) (ev_is (key_few d0) ?_))
  have h1 := small_cutK k0
  have h2 := small_cutK p0
  have h3 := small_cutK d0
  generalize cutK k0 = key at *
  generalize cutK p0 = pre at *
  generalize cutK d0 = delim at *
  have quit : Ev (fun k => cellarerlaw01_NameCuts.j0 k key pre delim true) true := by
    refine ev_succ ?_
    simp only [cellarerlaw01_NameCuts.j0]
    exact ev_pos trivial (ev_bind awake_is (ev_now _))
  refine ev_is rfl ?_
  by_cases o1 : keyB key = true
  · refine ev_pos o1 (ev_is rfl ?_)
    by_cases o2 : prefixB pre = true
    · refine ev_pos o2 (ev_is rfl ?_)
      by_cases o3 : delimB delim = true
      · refine ev_pos o3 ?_
        by_cases o4 : delim.toList = []
        · exact ev_pos o4 quit
        · refine ev_neg o4 (ev_is (under_is key pre) ?_)
          by_cases o5 : oc pre <+: oc key
          · rw [decide_eq_true o5]
            have hok : Ok key pre delim := ⟨o1, o2, o3, fun e => o4 (toList_nil.2 e), o5⟩
            obtain ⟨d, hd⟩ := hok.delim
            refine ev_succ ?_
            simp only [cellarerlaw01_NameCuts.j0]
            refine ev_neg (by simp) (ev_bind (group_is key pre delim (by omega) (by omega)) ?_)
            exact cuts key pre delim d h1 h2 hok hd
          · rw [decide_eq_false o5]
            exact quit
      · exact ev_neg o3 quit
    · exact ev_neg o2 quit
  · exact ev_neg o1 quit
end Go.Proofs.Ythlemogcaoehbaa.Pure
