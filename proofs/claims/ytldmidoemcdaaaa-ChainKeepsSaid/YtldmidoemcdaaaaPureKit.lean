/-
  THE PURE SIDE's OWN WORDS: 'from some number of rounds on'; octets of a text; no program here.
-/
import Derived.Test.YtldmidoemcdaaaaV0
namespace Go.Proofs.Ytldmidoemcdaaaa.PureKit
open Go.RowKit Go.Proofs.YtldmidoemcdaaaaW.PrintWords Go.Proofs.YtldmidoemcdaaaaW.PrintMore

section
variable {α β : Type} {A B : Nat → Option α} {r : α}
theorem ev_now (r : α) : Ev (fun _ => some r) r := Ev.now r
theorem ev_pos {c : Prop} [Decidable c] (h : c) (k : Ev A r) : Ev (fun n => if c then A n else B n) r := by simpa [h] using k
theorem ev_neg {c : Prop} [Decidable c] (h : ¬ c) (k : Ev B r) : Ev (fun n => if c then A n else B n) r := by simpa [h] using k
theorem ev_some {f : Nat → β → Option α} {x : β} (k : Ev (fun n => f n x) r) : Ev (fun n => (some x).bind (f n)) r := k
theorem ev_is {g : Option β} {f : Nat → β → Option α} {x : β} (h : g = some x) (k : Ev (fun n => f n x) r) : Ev (fun n => g.bind (f n)) r := by subst h; exact k
theorem ev_bind {g : Nat → Option β} {f : Nat → β → Option α} {x : β} (h : Ev g x) (k : Ev (fun n => f n x) r) : Ev (fun n => (g n).bind (f n)) r := Ev.bind h k
/-- A loop that takes a round: from the round's own equation. -/
theorem ev_step {g f : Nat → Option α} (h : ∀ k, g (k + 1) = f k) (k : Ev f r) : Ev g r := Ev.step h k
theorem ev_all {g : Nat → Option α} (h : ∀ k, g k = some r) : Ev g r := ⟨0, fun k _ => h k⟩
theorem ev_one {g : Nat → Option α} (h : ∀ k, g (k + 1) = some r) : Ev g r := ⟨1, fun k hk => by
  obtain ⟨m, rfl⟩ : ∃ m, k = m + 1 := ⟨k - 1, by omega⟩
  exact h m⟩
end
theorem wrap_id {x : Int} (h0 : -9223372036854775808 ≤ x) (h1 : x ≤ 9223372036854775807) : wrap64 x = x := by
  unfold wrap64
  omega
theorem wf_u8 {x : Int} (h : (Lit.int .u8 x).wf = true) : 0 ≤ x ∧ x ≤ 255 := by
  simp [Lit.wf, IntKind.min, IntKind.max, IntKind.signed, IntKind.bits] at h
  omega
theorem wf_u16 {x : Int} (h : (Lit.int .u16 x).wf = true) : 0 ≤ x ∧ x ≤ 65535 := by
  simp [Lit.wf, IntKind.min, IntKind.max, IntKind.signed, IntKind.bits] at h
  omega
theorem wf_u32 {x : Int} (h : (Lit.int .u32 x).wf = true) : 0 ≤ x ∧ x ≤ 4294967295 := by
  simp [Lit.wf, IntKind.min, IntKind.max, IntKind.signed, IntKind.bits] at h
  omega
theorem wf_u64 {x : Int} (h : (Lit.int .u64 x).wf = true) : 0 ≤ x ∧ x ≤ 18446744073709551615 := by
  simp [Lit.wf, IntKind.min, IntKind.max, IntKind.signed, IntKind.bits] at h
  omega
theorem wf_i64 {x : Int} (h : (Lit.int .i64 x).wf = true) : -9223372036854775808 ≤ x ∧ x ≤ 9223372036854775807 := by
  simp [Lit.wf, IntKind.min, IntKind.max, IntKind.signed, IntKind.bits] at h
  omega
/-- A text's octets, as numbers. -/
def oc (s : ByteArray) : List Nat := s.data.toList.map UInt8.toNat
theorem oc_length (s : ByteArray) : (oc s).length = s.size := by simp [oc]
theorem oc_lt (s : ByteArray) : ∀ x ∈ oc s, x < 256 := fun x hx => by
  obtain ⟨c, _, rfl⟩ := List.mem_map.1 hx
  exact c.toNat_lt
theorem bt_at_nat (s : ByteArray) (i : Nat) (h : i < s.size) : bt s (i : Int) = ((oc s)[i]'(by rw [oc_length]; exact h) : Nat) := by
  unfold bt oc
  rw [Int.toNat_natCast, dif_pos h]
  simp
  rfl
theorem bt_split {s : ByteArray} {pre : List Nat} {x : Nat} {rest : List Nat} (h : oc s = pre ++ x :: rest) : bt s (pre.length : Int) = x := by
  have hl : pre.length < s.size := by rw [← oc_length, h]; simp
  rw [bt_at_nat s _ hl]
  simp [h]
theorem size_split {s : ByteArray} {l : List Nat} (h : oc s = l) : s.size = l.length := by rw [← oc_length, h]
theorem oc_extract (s : ByteArray) (a b : Nat) : oc (s.extract a b) = ((oc s).drop a).take (b - a) := by
  simp [oc, ByteArray.data_extract, List.map_drop, List.map_take, List.extract_eq_take_drop]
theorem oc_append (s t : ByteArray) : oc (s ++ t) = oc s ++ oc t := by simp [oc]
theorem oc_inj {s t : ByteArray} (h : oc s = oc t) : s = t := by
  cases s with | mk a => cases t with | mk b =>
  congr 1
  apply Array.ext'
  have : ∀ l m : List UInt8, l.map UInt8.toNat = m.map UInt8.toNat → l = m := fun l => by
    induction l with
    | nil => intro m h; cases m with
      | nil => rfl
      | cons _ _ => simp at h
    | cons x r ih => intro m h; cases m with
      | nil => simp at h
      | cons y q =>
        simp at h
        rw [UInt8.toNat_inj.1 h.1, ih q h.2]
  exact this _ _ h
theorem nums_oc (l : List Nat) (hl : ∀ x ∈ l, x < 256) : oc (strOfNums (l.map fun x => ((x : Nat) : Int))) = l := by
  unfold oc
  rw [strOfNums_data, List.map_map, List.map_map]
  conv => rhs; rw [← List.map_id l]
  apply List.map_congr_left
  intro x hx
  have := hl x hx
  simp
  omega
end Go.Proofs.Ytldmidoemcdaaaa.PureKit
