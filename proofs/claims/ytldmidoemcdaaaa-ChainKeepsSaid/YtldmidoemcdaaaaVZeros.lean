/-
  append of zeros to an empty row without room: a new row.
-/
import Derived.Test.YtldmidoemcdaaaaVApp
set_option linter.unusedVariables false
namespace Go.Proofs.Ytldmidoemcdaaaa.VZeros
open Go.RowKit Go.Proofs.Ytldmidoemcdaaaa.P Go.Proofs.YtldmidoemcdaaaaW.PrintWords Go.Proofs.YtldmidoemcdaaaaW.PrintLast Go.Proofs.YtldmidoemcdaaaaW.PrintMore Go.Proofs.Ytldmidoemcdaaaa.PureKit Go.Proofs.Ytldmidoemcdaaaa.IdxV Go.Proofs.Ytldmidoemcdaaaa.VDel Go.Proofs.Ytldmidoemcdaaaa.VCopy Go.Proofs.Ytldmidoemcdaaaa.VApp

theorem run_zeros_grow {P : Program} (w : World) (t ti ty e : TypeId) (i : TypeInfo) (z : Value) (ht : P.underlying t = some (.slice e)) {k : IntKind} (hti : P.underlying ti = some (.int k)) (hi : P.info? e = some i) (hz : i.zero = some z)
    (hsn : i.size ≠ 0) (kx : IntKind) (A : Option Addr) (cap m : Nat) (hcap : cap < m) (hbytes : m * i.bytes ≤ 140737488355328) (hb0 : 0 < i.bytes) :
    (Builtin.append_ #[t, ti] ty #[.slice A 0 cap, .int kx m]).run P w =
      .ok (.slice (some ⟨w.heap.size, 0, none⟩) m (grownCap w m cap e)) (w.drew.alloc (.cells (Builtin.zeroCells z.cells m ++ Builtin.zeroCells z.cells (grownCap w m cap e - m)) e)) := by
  have hle : m ≤ 140737488355328 := Nat.le_trans (Nat.le_mul_of_pos_right _ hb0) hbytes
  have hw : IntKind.i64.wrap (m : Int) = m := by rw [IntKind.wrap_i64]; omega
  have hneg : ¬ ((m : Int) < 0) := by omega
  have hbig : ¬ (281474976710656 < (m : Int) * (i.bytes : Int)) := by
    rw [← Int.natCast_mul]
    omega
  have hn : ¬ (m ≤ cap) := by omega
  have h63' : ¬ (9223372036854775807 < (m : Int)) := by omega
  have hfit := growslice_fits hcap hbytes
  have h48' : ¬ (281474976710656 < Builtin.nextslicecap m cap * i.bytes) := by omega
  have hm : m ≠ 0 := by omega
  have hfo : (Builtin.firstCells i.size 0 (.slice A 0 cap)).run P w.drew = .ok #[] w.drew := by
    cases A with
    | none => rfl
    | some a => exact run_firstCells_some (P := P) w.drew i.size 0 a 0 cap [] (by simp) (by simp)
  simp [Builtin.append_, run_underlying ht, run_underlying hti, sizeOf, typeInfo, zeroValue, hi, hz, asInt, asIntOf, hw, hneg, hbig, hn, h63', h48', Question.forced, hfo, newRow, grownCap]
  intro h0
  exact absurd h0 (Nat.mul_ne_zero hm hsn)
end Go.Proofs.Ytldmidoemcdaaaa.VZeros
