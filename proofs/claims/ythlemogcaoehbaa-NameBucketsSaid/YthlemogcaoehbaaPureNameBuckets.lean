/- A bucket's name is one still without its first octet, or with one more, if these go; it is a key, too. -/
import Derived.Test.YthlemogcaoehbaaPx2
import Derived.Test.YthlemogcaoehbaaNmRef
set_option linter.unusedVariables false
set_option linter.unusedSimpArgs false
namespace Go.Proofs.Ythlemogcaoehbaa.Pure
open Go.RowKit Go.Proofs.Ythlemogcaoehbaa.P Go.Proofs.YthlemogcaoehbaaW.PrintWords Go.Proofs.YthlemogcaoehbaaW.PrintLast Go.Proofs.YthlemogcaoehbaaW.PrintMore Go.Proofs.Ythlemogcaoehbaa.PureKit Go.Proofs.Ythlemogcaoehbaa.Name Go.Proofs.Ythlemogcaoehbaa.NameW Go.Proofs.Ythlemogcaoehbaa.NmSpec Go.Proofs.Ythlemogcaoehbaa.NmRef
theorem bucketB_iff {s : ByteArray} : bucketB s = true ↔ 3 ≤ (oc s).length ∧ (oc s).length ≤ 20 ∧ (∀ x ∈ oc s, wordB x = true) ∧ (oc s).head? ≠ some 45 ∧ (oc s).getLast? ≠ some 45 := by
  unfold bucketB
  rw [Bool.and_eq_true, Bool.and_eq_true, isB_iff, List.all_eq_true]
  simp [and_assoc]
theorem NameBuckets : cellarerlaw01_NameBuckets.Pure := by
  intro s0 c _ hc
  apply Ev.rounds
  unfold cellarerlaw01_NameBuckets.f
  refine ev_is (key_few s0) (ev_is rfl ?_)
  have h1 := small_cutK s0
  generalize cutK s0 = s at *
  obtain ⟨c0, c1⟩ := wf_u8 hc
  obtain ⟨n, rfl⟩ : ∃ n : Nat, c = n := ⟨c.toNat, by omega⟩
  by_cases hb : bucketB s = true
  · refine ev_pos hb ?_
    obtain ⟨b1, b2, b3, b4, b5⟩ := bucketB_iff.1 hb
    have hk : keyB s = true := by
      rw [keyB_iff]
      refine ⟨by omega, by omega, fun x hx => ?_⟩
      have := b3 x hx
      unfold wordB at this
      simp at this
      omega
    obtain ⟨x, y, z, r, hs⟩ : ∃ x y z r, oc s = x :: y :: z :: r := by
      cases h : oc s with
      | nil => rw [h] at b1; simp at b1
      | cons x l => cases l with
        | nil => rw [h] at b1; simp at b1
        | cons y l => cases l with
          | nil => rw [h] at b1; simp at b1
          | cons z r => exact ⟨x, y, z, r, rfl⟩
    have hsz : s.size = r.length + 3 := by rw [← oc_length, hs]; rfl
    rw [decide_eq_false (show ¬ (s.size : Int) < 2 by omega)]
    have ho : oc (strOfNums [(n : Int)] ++ s) = n :: oc s := by
      rw [oc_append]
      have := nums_oc [n] (by intro x hx; simp at hx; omega)
      simp only [List.map_cons, List.map_nil] at this
      rw [this]
      rfl
    have hlen : (strOfNums [(n : Int)] ++ s).size = s.size + 1 := by rw [← oc_length, ho, List.length_cons, oc_length]
    have hone : (strOfNums [(n : Int)]).size = 1 := size_next
    have tail : ∀ b : Bool, b = ((decide (97 ≤ n) && decide (n ≤ 122)) || (decide (48 ≤ n) && decide (n ≤ 57))) → Ev (fun k => cellarerlaw01_NameBuckets.j1 k s (n : Int) b) true := fun b hbe => by
      have e1 : bucketB (strOfNums [(n : Int)] ++ s) = (b && decide (((strOfNums [(n : Int)] ++ s).size : Int) ≤ 20)) := by
        rw [Bool.eq_iff_iff, bucketB_iff, ho, Bool.and_eq_true, decide_eq_true_iff, hlen, hbe]
        have hl : (n :: oc s).getLast? = (oc s).getLast? := by rw [hs, List.getLast?_cons_cons]
        rw [hl, List.length_cons, oc_length, List.head?_cons]
        constructor
        · rintro ⟨g1, g2, g3, g4, g5⟩
          have := g3 n (by simp)
          unfold wordB at this
          simp at this g4 ⊢
          omega
        · rintro ⟨g1, g2⟩
          refine ⟨by omega, by omega, fun u hu => ?_, ?_, b5⟩
          · rcases List.mem_cons.1 hu with rfl | hu
            · unfold wordB
              rw [g1]
              rfl
            · exact b3 u hu
          · simp at g1 ⊢
            omega
      have ho1 : oc (s.extract 1 s.size) = y :: z :: r := by rw [oc_drop, hs]; rfl
      have e2 : (s.size : Int) > 3 → bucketB (s.extract 1 s.size) = ((y : Int) != 45) := fun h => by
        rw [Bool.eq_iff_iff, bucketB_iff, ho1]
        have hl : (y :: z :: r).getLast? = (oc s).getLast? := by rw [hs, List.getLast?_cons_cons (a := x)]
        rw [hl, List.head?_cons, bne_iff_ne]
        constructor
        · rintro ⟨g1, g2, g3, g4, g5⟩
          intro e
          exact g4 (by congr 1; omega)
        · intro g
          refine ⟨by simp; omega, ?_, fun u hu => b3 u (by rw [hs]; exact List.mem_cons_of_mem _ hu), ?_, b5⟩
          · rw [hs] at b2
            simp at b2 ⊢
            omega
          · intro e
            simp at e
            exact g (by omega)
      have e3 : ¬ (s.size : Int) > 3 → bucketB (s.extract 1 s.size) = false := fun h => by
        cases hq : bucketB (s.extract 1 s.size) with
        | false => rfl
        | true =>
          have := (bucketB_iff.1 hq).1
          rw [ho1] at this
          simp at this
          omega
      have hby : bt s 1 = (y : Int) := bt_split (pre := [x]) (rest := z :: r) (by rw [hs]; rfl)
      refine ev_succ ?_
      simp only [cellarerlaw01_NameBuckets.j1]
      refine ev_some (ev_pos (by omega) (ev_is rfl (ev_pos hk (ev_is rfl ?_))))
      rw [e1, hby]
      cases hbb : b with
      | true =>
        refine ev_pos rfl (ev_pos (by simp) (ev_pos (by omega) (ev_is rfl ?_)))
        by_cases h3 : (s.size : Int) > 3
        · refine ev_pos h3 (ev_pos (by omega) (ev_pos ?_ (ev_bind awake_is (ev_now _))))
          rw [e2 h3]
          simp
        · refine ev_neg h3 (ev_pos ?_ (ev_bind awake_is (ev_now _)))
          rw [e3 h3]
          rfl
      | false =>
        refine ev_neg (by simp) (ev_pos (by simp) (ev_pos (by omega) (ev_is rfl ?_)))
        by_cases h3 : (s.size : Int) > 3
        · refine ev_pos h3 (ev_pos (by omega) (ev_pos ?_ (ev_bind awake_is (ev_now _))))
          rw [e2 h3]
          simp
        · refine ev_neg h3 (ev_pos ?_ (ev_bind awake_is (ev_now _)))
          rw [e3 h3]
          rfl
    refine ev_succ ?_
    simp only [cellarerlaw01_NameBuckets.j0]
    refine ev_neg (by simp) ?_
    by_cases g1 : (n : Int) ≥ 97
    · refine ev_pos g1 ?_
      by_cases g2 : (n : Int) ≤ 122
      · exact ev_pos g2 (tail true (by simp; omega))
      · refine ev_neg g2 (ev_pos (by omega) (tail _ ?_))
        rw [decide_eq_false (show ¬ (n : Int) ≤ 57 by omega)]
        simp
        omega
    · refine ev_neg g1 ?_
      by_cases g2 : (n : Int) ≥ 48
      · refine ev_pos g2 (tail _ ?_)
        rw [Bool.eq_iff_iff]
        simp
        omega
      · exact ev_neg g2 (tail false (by simp; omega))
  · refine ev_neg hb ?_
    refine ev_succ ?_
    simp only [cellarerlaw01_NameBuckets.j0]
    exact ev_pos trivial (ev_bind awake_is (ev_now _))
end Go.Proofs.Ythlemogcaoehbaa.Pure
