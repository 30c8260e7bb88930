/- The tag of octets, and of more octets whatever the tag ahead, is the reference's: for every text and every tag. -/
import Derived.Test.YtmlnkdknpogknaaPureTag
namespace Go.Proofs.Ytmlnkdknpogknaa.Pure
open Go.RowKit Go.Proofs.Ytmlnkdknpogknaa.P Go.Proofs.YtmlnkdknpogknaaW.PrintWords Go.Proofs.YtmlnkdknpogknaaW.PrintLast Go.Proofs.Ytmlnkdknpogknaa.PureKit Go.Proofs.Ytmlnkdknpogknaa.PureTag
theorem TagOfs : cellarerlaw04_TagOfs.Pure := by
  intro s t hs ht
  obtain ⟨u, hu, hl⟩ := few s
  have ht' := wf_u32 ht
  obtain ⟨n, rfl⟩ := Int.eq_ofNat_of_zero_le ht'.1
  apply Ev.rounds
  unfold cellarerlaw04_TagOfs.f
  refine ev_bind hu ?_
  refine ev_is (of_is u hl) ?_
  refine ev_bind (ref_of u hl) ?_
  refine ev_pos rfl ?_
  refine ev_is (more_is n u (by omega) hl) ?_
  refine ev_bind (ref_more n u (by omega) hl) ?_
  refine ev_pos rfl ?_
  refine ev_is awake_is ?_
  exact ev_now true
end Go.Proofs.Ytmlnkdknpogknaa.Pure
