/- The tag of octets is that of what is ahead of a cut, and of more: for every text and every cut. -/
import Derived.Test.YtmlnkdknpogknaaPureTag
namespace Go.Proofs.Ytmlnkdknpogknaa.Pure
open Go.RowKit Go.Proofs.Ytmlnkdknpogknaa.P Go.Proofs.YtmlnkdknpogknaaW.PrintWords Go.Proofs.YtmlnkdknpogknaaW.PrintLast Go.Proofs.Ytmlnkdknpogknaa.PureKit Go.Proofs.Ytmlnkdknpogknaa.PureTag
theorem more_cut (l : List Nat) (hl : ∀ x ∈ l, x < 256) (k : Nat) : TagNat.more (TagNat.more 0 (l.take k)) (l.drop k) = TagNat.more 0 l := by
  have h : TagNat.run (TagNat.no 0) l = TagNat.run (TagNat.run (TagNat.no 0) (l.take k)) (l.drop k) := by
    rw [← TagNat.run_append, List.take_append_drop]
  unfold TagNat.more
  rw [TagNat.no_no (TagNat.run_lt _ (TagNat.no_lt 0) (fun x hx => hl x (List.mem_of_mem_take hx))), h]
theorem TagCuts : cellarerlaw04_TagCuts.Pure := by
  intro s at_ hs hat
  obtain ⟨u, hu, hl⟩ := few s
  have hat' := wf_u16 hat
  obtain ⟨n, rfl⟩ := Int.eq_ofNat_of_zero_le hat'.1
  apply Ev.rounds
  unfold cellarerlaw04_TagCuts.f
  have e1 : wrap64 ((u.size : Int) + 1) = ((u.size + 1 : Nat) : Int) := wrap_id (by omega) (by omega)
  have e2 : wrap64 (n : Int) = (n : Int) := wrap_id (by omega) (by omega)
  have e3 : Int.tmod (n : Int) ((u.size + 1 : Nat) : Int) = ((n % (u.size + 1) : Nat) : Int) := by
    rw [Int.tmod_eq_emod_of_nonneg (by omega)]
    omega
  have hk : n % (u.size + 1) ≤ u.size := by have := Nat.mod_lt n (show u.size + 1 > 0 by omega); omega
  refine ev_bind hu ?_
  rw [e1, e2, e3]
  generalize n % (u.size + 1) = k at hk
  refine ev_neg (by omega) ?_
  refine ev_pos (by omega) ?_
  refine ev_pos (by omega) ?_
  rw [Int.toNat_natCast]
  refine ev_is (of_is _ (by rw [ByteArray.size_extract]; omega)) ?_
  refine ev_is (more_is _ _ (more_lt _ _) (by rw [ByteArray.size_extract]; omega)) ?_
  refine ev_is (of_is u hl) ?_
  have hcut : TagNat.more (TagNat.more 0 (oc (u.extract 0 k))) (oc (u.extract k u.size)) = TagNat.more 0 (oc u) := by
    rw [oc_extract, oc_extract, List.drop_zero, Nat.sub_zero, List.take_of_length_le (l := (oc u).drop k) (by rw [List.length_drop, oc_length]; omega)]
    exact more_cut _ (oc_lt u) _
  rw [hcut]
  refine ev_pos rfl ?_
  refine ev_is (of_is u hl) ?_
  refine ev_is (more_is _ _ (more_lt _ _) (by decide)) ?_
  refine ev_is (of_is u hl) ?_
  refine ev_pos (by
    show (((TagNat.more (TagNat.more 0 (oc u)) []) : Nat) : Int) = _
    have := more_cut (oc u) (oc_lt u) (oc u).length
    rw [List.take_length, List.drop_length] at this
    rw [this]) ?_
  refine ev_is awake_is ?_
  exact ev_now true
end Go.Proofs.Ytmlnkdknpogknaa.Pure
