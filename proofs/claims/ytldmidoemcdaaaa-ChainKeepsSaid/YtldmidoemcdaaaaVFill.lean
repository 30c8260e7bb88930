/-
  chain.versions of the call's own: elements written over, one behind the other (copy).
-/
import Derived.Test.YtldmidoemcdaaaaVZeros
set_option linter.unusedVariables false
namespace Go.Proofs.Ytldmidoemcdaaaa.VFill
open Go.RowKit Go.Proofs.Ytldmidoemcdaaaa.P Go.Proofs.YtldmidoemcdaaaaW.PrintWords Go.Proofs.Ytldmidoemcdaaaa.PureKit Go.Proofs.Ytldmidoemcdaaaa.IdxV Go.Proofs.Ytldmidoemcdaaaa.VDel Go.Proofs.Ytldmidoemcdaaaa.VCopy Go.Proofs.Ytldmidoemcdaaaa.VApp Go.Proofs.Ytldmidoemcdaaaa.VZeros

def cs (x : S25) : List Value := [.int .u64 x.f0, .string x.f1, .bool x.f2, .int .i64 x.f3]
theorem copied {gb n cap base : Nat} {ok : Nat → Prop} : ∀ (us : List S25) (i : Nat) (ys : List S25) (w : World), Kd.R k25 25 w base ok (.slice (some ⟨gb, 0, none⟩) n cap) ys → i + us.length ≤ n →
    Kd.R k25 25 (w.setCells gb (i * 4) (us.flatMap cs)) base ok (.slice (some ⟨gb, 0, none⟩) n cap) (ys.take i ++ us ++ ys.drop (i + us.length)) ∧ w.grownBy (w.setCells gb (i * 4) (us.flatMap cs)) (some gb)
  | [], i, ys, w, h, hi => by
    rw [List.append_nil, List.length_nil, Nat.add_zero, List.take_append_drop]
    exact ⟨h, ⟨rfl, rfl, rfl, Nat.le_refl _, fun _ _ _ => rfl⟩⟩
  | x :: us, i, ys, w, h, hi => by
    rw [List.length_cons] at hi
    obtain ⟨hl, _, _⟩ := Kd.R_reads' h
    obtain ⟨c, hcl, hM, hcc, hfr⟩ := Kd.R_elem h z25 (i : Int) (by omega) (by omega)
    have hs := Kd.R_seg (d := k25) h (i : Int) (by omega) (by omega) (c := c) (seg := cs x) (j := 0) hcl hcc (Nat.le_refl 4) (x' := x) (okp := fun _ => False) (by
      have hd : c.drop 4 = [] := List.drop_of_length_le (by rw [hcl]; exact Nat.le_refl 4)
      show k25.M w base _ x (c.take 0 ++ cs x ++ c.drop 4)
      rw [hd]
      exact k25_mkM _ _ _ x) (fun _ h => h.elim)
    have hs1 : Kd.R k25 25 (w.setCells gb (i * 4) (cs x)) base ok (.slice (some ⟨gb, 0, none⟩) n cap) (ys.set i x) := hs.1
    have hs2 : w.grownBy (w.setCells gb (i * 4) (cs x)) (some gb) := hs.2
    obtain ⟨h1, h2⟩ := copied us (i + 1) (ys.set i x) _ hs1 (by omega)
    have e : (w.setCells gb (i * 4) (cs x)).setCells gb ((i + 1) * 4) (us.flatMap cs) = w.setCells gb (i * 4) ((x :: us).flatMap cs) := by
      rw [List.flatMap_cons, Nat.succ_mul]
      rfl
    rw [e] at h1 h2
    have hi' : i < (ys.set i x).length := by rw [List.length_set]; omega
    have ey : (ys.set i x).take (i + 1) ++ us ++ (ys.set i x).drop (i + 1 + us.length) = ys.take i ++ (x :: us) ++ ys.drop (i + (x :: us).length) := by
      rw [List.take_succ_eq_append_getElem hi', List.take_set_of_le (Nat.le_refl _), List.drop_set_of_lt (by omega), List.length_cons]
      simp [show i + 1 + us.length = i + (us.length + 1) by omega]
    rw [ey] at h1
    exact ⟨h1, hs2.trans h2⟩
end Go.Proofs.Ytldmidoemcdaaaa.VFill
