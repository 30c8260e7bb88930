/-
  THE PURE SIDE's OWN WORDS: 'from some number of rounds on'; octets of a text; no program here.
-/
import Derived.Test.YtcnnijkgiioniaaV0
namespace Go.Proofs.Ytcnnijkgiioniaa.PureKit
open Go.RowKit Go.Proofs.YtcnnijkgiioniaaW.PrintWords Go.Proofs.YtcnnijkgiioniaaW.PrintMore

section
variable {α β : Type} {A B : Nat → Option α} {r : α}
theorem ev_now (r : α) : Ev (fun _ => some r) r := Ev.now r
theorem ev_pos {c : Prop} [Decidable c] (h : c) (k : Ev A r) : Ev (fun n => if c then A n else B n) r := by simpa [h] using k
theorem ev_neg {c : Prop} [Decidable c] (h : ¬ c) (k : Ev B r) : Ev (fun n => if c then A n else B n) r := by simpa [h] using k
theorem ev_is {g : Option β} {f : Nat → β → Option α} {x : β} (h : g = some x) (k : Ev (fun n => f n x) r) : Ev (fun n => g.bind (f n)) r := by subst h; exact k
theorem ev_bind {g : Nat → Option β} {f : Nat → β → Option α} {x : β} (h : Ev g x) (k : Ev (fun n => f n x) r) : Ev (fun n => (g n).bind (f n)) r := Ev.bind h k
/-- A loop that takes a round: from the round's own equation. -/
theorem ev_step {g f : Nat → Option α} (h : ∀ k, g (k + 1) = f k) (k : Ev f r) : Ev g r := Ev.step h k
end
theorem wrap_id {x : Int} (h0 : -9223372036854775808 ≤ x) (h1 : x ≤ 9223372036854775807) : wrap64 x = x := by
  unfold wrap64
  omega
theorem wf_u8 {x : Int} (h : (Lit.int .u8 x).wf = true) : 0 ≤ x ∧ x ≤ 255 := by
  simp [Lit.wf, IntKind.min, IntKind.max, IntKind.signed, IntKind.bits] at h
  omega
theorem wf_u64 {x : Int} (h : (Lit.int .u64 x).wf = true) : 0 ≤ x ∧ x ≤ 18446744073709551615 := by
  simp [Lit.wf, IntKind.min, IntKind.max, IntKind.signed, IntKind.bits] at h
  omega
/-- A text's octets, as numbers. -/
def oc (s : ByteArray) : List Nat := s.data.toList.map UInt8.toNat
theorem oc_length (s : ByteArray) : (oc s).length = s.size := by simp [oc]
theorem oc_extract (s : ByteArray) (a b : Nat) : oc (s.extract a b) = ((oc s).drop a).take (b - a) := by
  simp [oc, ByteArray.data_extract, List.map_drop, List.map_take, List.extract_eq_take_drop]
theorem oc_append (s t : ByteArray) : oc (s ++ t) = oc s ++ oc t := by simp [oc]
theorem oc_inj {s t : ByteArray} (h : oc s = oc t) : s = t := by
  cases s with | mk a => cases t with | mk b =>
  congr 1
  apply Array.ext'
  have : ∀ l m : List UInt8, l.map UInt8.toNat = m.map UInt8.toNat → l = m := fun l => by
    induction l with
    | nil => intro m h; cases m with
      | nil => rfl
      | cons _ _ => simp at h
    | cons x r ih => intro m h; cases m with
      | nil => simp at h
      | cons y q =>
        simp at h
        rw [UInt8.toNat_inj.1 h.1, ih q h.2]
  exact this _ _ h
end Go.Proofs.Ytcnnijkgiioniaa.PureKit
