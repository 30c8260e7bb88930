/-
  slices.Insert of one version ahead of chain.versions of the call's own, whatever room there is.
-/
import Derived.Test.YtldmidoemcdaaaaVRoom
import Derived.Test.YtldmidoemcdaaaaVIns
set_option linter.unusedVariables false
namespace Go.Proofs.Ytldmidoemcdaaaa.VInsAny
open Go.RowKit Go.Proofs.Ytldmidoemcdaaaa.P Go.Proofs.YtldmidoemcdaaaaW.PrintWords Go.Proofs.Ytldmidoemcdaaaa.PureKit Go.Proofs.Ytldmidoemcdaaaa.IdxV Go.Proofs.Ytldmidoemcdaaaa.VDel

theorem insert_any (base : Nat) (w : World) (v0 : Value) (vb cb : Nat) (cv : Array Value) (tv : TypeId) (x : S25) (l : List S25) (hlen : l.length < 3518437208)
    (hr : Kd.R k25 25 w base (fun _ => True) v0 l) (hv : w.heap[vb]? = some (.cells cv tv (0, 0))) (hx : Kd.C k25 w (some ⟨vb, 0, none⟩) 1 [x]) (hvb : v0.ownBlock ≠ some vb) (hcb : 1 ≤ cb) (hbs : base ≤ w.heap.size) :
    Calls Try.prog 36 #[v0, .int .i64 0, .slice (some ⟨vb, 0, none⟩) 1 cb] w fun e w' =>
      ∃ v', e = .returned v' ∧ Kd.R k25 25 w' base (fun _ => True) v' (x :: l) ∧ Below base w w' := by
  by_cases h0 : 0 < l.length
  · obtain ⟨gb, c0, rfl, _, _, _⟩ := Kd.R_form hr h0
    have hne : vb ≠ gb := fun e => hvb (by rw [e]; rfl)
    by_cases hroom : c0 < l.length + 1
    · exact VGrow.insert_grow base gb c0 w _ cb x l h0 hlen hroom hr hx hcb hbs
    · exact VRoom.insert_room base gb c0 w vb cb cv tv x l h0 hlen (by omega) hr hv hx hne hcb hbs
  · have hl : l = [] := List.length_eq_zero_iff.1 (by omega)
    subst hl
    obtain ⟨A, c, rfl⟩ := Kd.R_slice hr
    exact VIns.insert_empty base A c w _ cb x hr hx hcb hbs
end Go.Proofs.Ytldmidoemcdaaaa.VInsAny
