/-
  append of versions to chain.versions, where the two types of rows are not one (slices.Insert's variadic argument).
-/
import Derived.Test.YtldmidoemcdaaaaVCopy
set_option linter.unusedVariables false
namespace Go.Proofs.Ytldmidoemcdaaaa.VApp
open Go.RowKit Go.Proofs.Ytldmidoemcdaaaa.P Go.Proofs.YtldmidoemcdaaaaW.PrintWords Go.Proofs.Ytldmidoemcdaaaa.PureKit Go.Proofs.Ytldmidoemcdaaaa.IdxV Go.Proofs.Ytldmidoemcdaaaa.VDel Go.Proofs.Ytldmidoemcdaaaa.VCopy

theorem append_run {P : Program} (w : World) (t u e e' ty : TypeId) (ht : P.underlying t = some (.slice e)) (hu : P.underlying u = some (.slice e')) (v : Value) (A : Option Addr) (m c : Nat) :
    (Builtin.append_ #[t, u] ty #[v, .slice A m c]).run P w = (Builtin.append_ #[t, t] ty #[v, .slice A m c]).run P w := by
  cases v with
  | slice a n k =>
    cases hq : P.info? e <;> simp [Builtin.append_, run_underlying ht, run_underlying hu, sizeOf, typeInfo, hq]
  | _ => simp [Builtin.append_, run_underlying ht]

set_option maxHeartbeats 1600000 in
/-- The run of an append of versions to a row of the call's own. -/
theorem rows_run (base : Nat) (W : World) (ty : TypeId) (v : Value) (xs ys : List S25) (A : Option Addr) (m c : Nat)
    (HO : Kd.R k25 25 W base (fun _ => True) v xs) (HR : Kd.C k25 W A m ys) (hbase : base ≤ W.heap.size) (hl : (xs.length + m) * 40 ≤ 140737488355328) :
    ∃ v1 w1, (Builtin.append_ #[60, 60] ty #[v, .slice A m c]).run Try.prog W = .ok v1 w1 ∧ Kd.R k25 25 w1 base (fun _ => True) v1 (xs ++ ys) ∧ Below base W w1 := by
  have h := Kd.R_append_rows (P := Try.prog) (ops := #[]) (rest := []) (a := ⟨#[v, .slice A m c], []⟩)
    (o := { dst := some 0, op := .call { callee := .builtin .append, args := #[.tmp 0, .tmp 1], argTypes := #[60, 60] }, type := ty, pos := "", after := #[], guard := none })
    (Q := fun e a' w' => e = .normal ∧ ∃ v1, a' = (⟨#[v1, .slice A m c], []⟩ : Act) ∧ Kd.R k25 25 w' base (fun _ => True) v1 (xs ++ ys) ∧ Below base W w')
    k25 (w0 := W) (W := W) base rfl (.tmp 0) (.tmp 1) 60 25 (.agg #[(.int .u64 0), (.string ⟨#[]⟩), (.bool false), (.int .i64 0)]) 40 rfl Try.underlying60 info25 rfl (by decide) (by omega)
    v xs ys A m c (fun _ => True) (fun _ => False) rfl rfl HO HR (fun x cs hK => by obtain rfl := k25_open hK; exact k25_mkM _ _ _ x) (fun _ h => h.elim) (fun _ _ => trivial) (Below.refl _ _) hbase hl
    (fun v1 w1 h1 h2 _ _ => ⟨rfl, v1, rfl, h1, h2⟩)
  rw [wpList] at h
  simp only [Region.wanted, if_true] at h
  rcases h with h | ⟨_, h⟩
  · unfold Oper.wp execOp at h
    simp only [resolve, invoke, builtin, Sem.run_bind, Sem.run_pure, Result.andThen_ok, List.map_toArray, List.map_cons, List.map_nil] at h
    rw [show (#[Act.eval ⟨#[v, .slice A m c], []⟩ (.tmp 0), Act.eval ⟨#[v, .slice A m c], []⟩ (.tmp 1)] : Array Value) = #[v, .slice A m c] from rfl] at h
    cases hq : (Builtin.append_ #[60, 60] ty #[v, .slice A m c]).run Try.prog W with
    | ok v1 w1 =>
      rw [hq, Result.andThen_ok, Oper.upon_value] at h
      obtain ⟨_, v1', hv, h1, h2⟩ := h
      have : v1 = v1' := by
        have h3 := congrArg (fun a : Act => a.tmps[0]?) hv
        simpa [Act.put] using h3
      subst this
      exact ⟨_, _, rfl, h1, h2⟩
    | halt hh w1 =>
      rw [hq] at h
      cases hh <;> simp [Oper.upon, Result.andThen] at h
  · obtain ⟨_, _, he, _⟩ := h
    cases he
/-- The operation append where its run is known. -/
theorem wpList_append_run {P : Program} {W : World} {ops : Array Oper} {rest : List Oper} {o : Oper} {a : Act} {Q : Exit → Act → World → Prop} (hgd : o.guard = none) (s x : Operand) (t t' : TypeId)
    (ho : o.op = .call { callee := .builtin .append, args := #[s, x], argTypes := #[t, t'] }) {v u : Value} (hs : a.eval s = v) (hx : a.eval x = u) {v' : Value} {w' : World}
    (hr : (Builtin.append_ #[t, t'] o.type #[v, u]).run P W = .ok v' w') (h : wpList P ops Q rest (a.put o.dst v') w') : wpList P ops Q (o :: rest) a W :=
  wpList_plain hgd fun K hK => by
    unfold Oper.wp execOp
    simp only [ho, resolve, invoke, builtin, Sem.run_bind, Sem.run_pure, Result.andThen_ok, List.map_toArray, List.map_cons, List.map_nil, hs, hx, hr]
    exact hK _ _ h
end Go.Proofs.Ytldmidoemcdaaaa.VApp
