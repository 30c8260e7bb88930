/-
  slices.Clone of versions: a new row with the same elements (nil of nil).
-/
import Derived.Test.YtldmidoemcdaaaaPx0
import Derived.Test.YtldmidoemcdaaaaPureKit
import Derived.Lib.SliceRun
import Derived.Outline
namespace Go.Proofs.Ytldmidoemcdaaaa.VClone
open Go.RowKit Go.Proofs.Ytldmidoemcdaaaa.P Go.Proofs.YtldmidoemcdaaaaW.PrintWords Go.Proofs.Ytldmidoemcdaaaa.PureKit
def Post (w : World) (l : List S25) (e : Ending) (w' : World) : Prop := ∃ v0_ : Value, e = .returned v0_ ∧ Kd.R k25 25 w' w.heap.size (fun _ => True) v0_ l ∧ Below w.heap.size w w'

set_option maxRecDepth 100000 in
set_option maxHeartbeats 1600000 in
theorem clone_any (A : Option Addr) (c : Nat) (l : List S25) (w : World) (hr : Kd.C k25 w A l.length l) (hl : l.length < 3518437208883) :
    Calls Try.prog 39 #[.slice A l.length c] w (Post w l) := by
  have qT : ∀ (w : World) (a : Option Addr) (n c n' c' : Nat), (binOp .eql 60 (.slice a n c) (.slice none n' c')).run Try.prog w = .ok (.bool a.isNone) w := fun w a n c n' c' => Lib.run_eql_slice_nil w _ _ a n c n' c' Try.underlying60
  cases A with
  | none =>
    have h0 : l = [] := by
      rcases l with _ | ⟨x, r⟩
      · rfl
      · obtain ⟨ad, h, _⟩ := hr.2.2 (by simp)
        cases h
    subst h0
    clear hr hl
    go_enter Try.func39, Try.ntmps39
    go_wp2
    go_ret
    exact ⟨_, rfl, Kd.R_nil _ _ _ _ _, Below.refl _ _⟩
  | some ad =>
    have HR := Aside0.mk hr
    clear hr
    have hu := Try.underlying25
    go_enter Try.func39, Try.ntmps39
    have HL := Aside0.mk hl
    clear hl
    go_wp2_with (first
      | ((with_reducible refine gate_dst (N := 5) rfl ?_); refine Kd.R_lit (w0 := w) k25 w.heap.size 25 ?hg (N := 5) ?hd (xs := []) (inner := []) (ok := fun _ => True) (okp := fun _ => False) ?hr ?hp (fun _ h => h.elim) trivial (Below.refl _ _) (Nat.le_refl _) (by simp) ?_; (case hd => rfl); (case hg => rfl); (case hr => first | (go_simp; done) | (go_simp; rfl)); (case hp => exact Reps.none _ _); intro v1 w1 ho hb hg hat; have HO := Aside0.mk ho; have HB := Aside0.mk hb; clear ho hb hg hat)
      | ((with_reducible refine gate_builtin (b := .append) (xs := #[.tmp 5, .tmp 6]) rfl ?_); at_builtin; refine Kd.R_append_rows k25 (w0 := w) w.heap.size rfl (.tmp 5) (.tmp 6) 60 25 (.agg #[(.int .u64 0), (.string ⟨#[]⟩), (.bool false), (.int .i64 0)]) 40 rfl Try.underlying60 info25 rfl (by decide) (by omega) v1 [] l _ _ _ (fun _ => True) (fun _ => False) rfl rfl ?aO ?aR (fun _ _ h => h) (fun _ h => h.elim) ?aF ?aB ?aS ?aL ?_; (case aR => exact Kd.C_below HR.out HB.out); (case aB => exact HB.out); (case aF => exact (fun _ _ => trivial)); (case aO => exact HO.out); (case aS => exact HB.out.size); (case aL => have := HL.out; simp; omega); intro v2 w2 ho hb hg hat; have HO2 := Aside0.mk ho; have HB2 := Aside0.mk hb; clear HO HB; clear ho hb hg hat))
    go_ret
    exact ⟨_, rfl, HO2.out, HB2.out⟩
end Go.Proofs.Ytldmidoemcdaaaa.VClone
