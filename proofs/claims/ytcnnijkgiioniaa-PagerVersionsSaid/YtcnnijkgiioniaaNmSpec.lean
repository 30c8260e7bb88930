/-
  layer 1: NAMES IN PLAIN WORDS: texts' octets as lists of numbers; a group's end; what is behind all that begin with a text; the order.
-/
import Derived.Test.YtcnnijkgiioniaaProg
import Derived.BigCall
import Derived.BigGuard
import Derived.Laws.Externs
import Derived.Lib.Bytealg
import Derived.Test.YtcnnijkgiioniaaCmp
import Derived.Test.YtcnnijkgiioniaaName
import Derived.Test.YtcnnijkgiioniaaNameW
import Derived.Test.YtcnnijkgiioniaaPureKit
import Derived.Test.YtcnnijkgiioniaaV0
namespace Go.Proofs.Ytcnnijkgiioniaa.NmSpec
open Go.RowKit Go.Proofs.YtcnnijkgiioniaaW.PrintWords Go.Proofs.Ytcnnijkgiioniaa.PureKit Go.Proofs.Ytcnnijkgiioniaa.Name Go.Proofs.Ytcnnijkgiioniaa.NameW

theorem ev_succ {α : Type} {g : Nat → Option α} {r : α} (h : Ev (fun k => g (k + 1)) r) : Ev g r := ev_step (fun _ => rfl) h
theorem toList_oc {s t : ByteArray} : s.toList = t.toList ↔ oc s = oc t := by
  constructor
  · intro h
    rw [ByteArray.toList_eq, ByteArray.toList_eq] at h
    unfold oc
    rw [h]
  · intro h
    rw [oc_inj h]
theorem toList_nil {s : ByteArray} : s.toList = [] ↔ oc s = [] := by
  rw [ByteArray.toList_eq]
  simp [oc]
/-- Octets as a text. -/
def ofL (l : List Nat) : ByteArray := strOfNums (l.map fun x => ((x : Nat) : Int))
theorem oc_take (s : ByteArray) (n : Nat) : oc (s.extract 0 n) = (oc s).take n := by rw [oc_extract]; simp
theorem oc_drop (s : ByteArray) (n : Nat) : oc (s.extract n s.size) = (oc s).drop n := by
  rw [oc_extract, List.take_of_length_le]
  rw [List.length_drop, oc_length]
  omega
/-! ### Kinds -/
def Plain (l : List Nat) : Prop := ∀ x ∈ l, 32 ≤ x ∧ x ≤ 126
theorem all_plain {l : List Nat} : l.all plainB = true ↔ Plain l := by
  rw [List.all_eq_true]
  unfold Plain plainB
  simp
theorem isB_iff {least most : Nat} {p : Nat → Bool} {s : ByteArray} : isB least most p s = true ↔ least ≤ (oc s).length ∧ (oc s).length ≤ most ∧ (oc s).all p = true := by
  rw [oc_length]
  unfold isB
  simp [and_assoc]
theorem keyB_iff {s : ByteArray} : keyB s = true ↔ 1 ≤ (oc s).length ∧ (oc s).length ≤ 60 ∧ Plain (oc s) := by
  unfold keyB
  rw [isB_iff, all_plain]
theorem delimB_iff {s : ByteArray} : delimB s = true ↔ (oc s).length ≤ 1 ∧ Plain (oc s) := by
  unfold delimB
  rw [isB_iff, all_plain]
  simp
theorem Plain.append {a b : List Nat} (ha : Plain a) (hb : Plain b) : Plain (a ++ b) := fun x hx => by
  rcases List.mem_append.1 hx with h | h
  · exact ha x h
  · exact hb x h
theorem Plain.left {a b : List Nat} (h : Plain (a ++ b)) : Plain a := fun x hx => h x (List.mem_append_left _ hx)
theorem Plain.lt {a : List Nat} (h : Plain a) : ∀ x ∈ a, x < 256 := fun x hx => by have := h x hx; omega

/-! ### A group's end -/
/-- Behind the first d, from n on. -/
def cutAt (d : Nat) : List Nat → Nat → Option Nat
  | [], _ => none
  | x :: r, n => if x = d then some (n + 1) else cutAt d r (n + 1)
theorem cutAt_some {d : Nat} : ∀ {a : List Nat} (b : List Nat) (n : Nat), d ∉ a → cutAt d (a ++ d :: b) n = some (n + a.length + 1)
  | [], b, n, _ => by simp [cutAt]
  | x :: r, b, n, h => by
    simp only [List.mem_cons, not_or] at h
    rw [List.cons_append, cutAt, if_neg (fun e => h.1 e.symm), cutAt_some b (n + 1) h.2]
    simp only [List.length_cons]
    congr 1
    omega
theorem cutAt_none {d : Nat} : ∀ {a : List Nat} (n : Nat), d ∉ a → cutAt d a n = none
  | [], n, _ => rfl
  | x :: r, n, h => by
    simp only [List.mem_cons, not_or] at h
    rw [cutAt, if_neg (fun e => h.1 e.symm), cutAt_none (n + 1) h.2]
theorem first_of (d : Nat) : ∀ l : List Nat, d ∉ l ∨ ∃ a b, l = a ++ d :: b ∧ d ∉ a
  | [] => .inl (by simp)
  | x :: r => by
    by_cases e : x = d
    · exact .inr ⟨[], r, by simp [e], by simp⟩
    · rcases first_of d r with h | ⟨a, b, h, hd⟩
      · exact .inl (by simp only [List.mem_cons, not_or]; exact ⟨fun q => e q.symm, h⟩)
      · exact .inr ⟨x :: a, b, by rw [h]; rfl, by simp only [List.mem_cons, not_or]; exact ⟨fun q => e q.symm, hd⟩⟩
/-- May a group be asked for? -/
def Ok (key pre delim : ByteArray) : Prop := keyB key = true ∧ prefixB pre = true ∧ delimB delim = true ∧ oc delim ≠ [] ∧ oc pre <+: oc key
instance (key pre delim : ByteArray) : Decidable (Ok key pre delim) := by unfold Ok; infer_instance
/-- A key's group. -/
def grp (key pre delim : ByteArray) : ByteArray × Bool :=
  if Ok key pre delim then (match cutAt ((oc delim).headD 0) ((oc key).drop pre.size) pre.size with
    | some n => (key.extract 0 n, true)
    | none => ((⟨#[]⟩ : ByteArray), false))
  else ((⟨#[]⟩ : ByteArray), false)
theorem grp_not {key pre delim : ByteArray} (h : ¬ Ok key pre delim) : grp key pre delim = ((⟨#[]⟩ : ByteArray), false) := if_neg h
theorem Ok.delim {key pre delim : ByteArray} (h : Ok key pre delim) : ∃ d, oc delim = [d] := by
  obtain ⟨_, _, h3, h4, _⟩ := h
  rw [delimB_iff] at h3
  cases hd : oc delim with
  | nil => exact absurd hd h4
  | cons d r =>
    rw [hd] at h3
    cases r with
    | nil => exact ⟨d, rfl⟩
    | cons _ _ => simp at h3
theorem Ok.rest {key pre delim : ByteArray} (h : Ok key pre delim) : oc key = oc pre ++ (oc key).drop pre.size := by
  obtain ⟨r, hr⟩ := h.2.2.2.2
  rw [← hr, ← oc_length, List.drop_left]
theorem grp_none {key pre delim : ByteArray} {d : Nat} (h : Ok key pre delim) (hd : oc delim = [d]) (hn : d ∉ (oc key).drop pre.size) : grp key pre delim = ((⟨#[]⟩ : ByteArray), false) := by
  unfold grp
  rw [if_pos h, hd]
  simp only [List.headD_cons]
  rw [cutAt_none _ hn]
theorem grp_some {key pre delim : ByteArray} {d : Nat} {a b : List Nat} (h : Ok key pre delim) (hd : oc delim = [d]) (hk : oc key = oc pre ++ (a ++ d :: b)) (hn : d ∉ a) :
    grp key pre delim = (key.extract 0 (pre.size + a.length + 1), true) := by
  unfold grp
  rw [if_pos h, hd]
  simp only [List.headD_cons]
  rw [show (oc key).drop pre.size = a ++ d :: b by rw [hk, ← oc_length, List.drop_left], cutAt_some _ _ hn]
theorem oc_grp {key pre : ByteArray} {d : Nat} {a b : List Nat} (hk : oc key = oc pre ++ (a ++ d :: b)) : oc (key.extract 0 (pre.size + a.length + 1)) = oc pre ++ (a ++ [d]) := by
  rw [oc_take, hk, ← oc_length]
  rw [show oc pre ++ (a ++ d :: b) = (oc pre ++ (a ++ [d])) ++ b by simp]
  rw [List.take_left']
  simp
  omega
/-! ### Behind all -/
def afterR : List Nat → List Nat
  | [] => []
  | x :: r => if x < 126 then (x + 1) :: r else afterR r
def afterL (l : List Nat) : List Nat := (afterR l.reverse).reverse
theorem snoc_cases {α : Type} (l : List α) : l = [] ∨ ∃ l' u, l = l' ++ [u] := by
  rcases List.eq_nil_or_concat l with h | ⟨l', u, h⟩
  · exact .inl h
  · exact .inr ⟨l', u, by simpa using h⟩
def afterB (s : ByteArray) : ByteArray := if prefixB s = true then ofL (afterL (oc s)) else (⟨#[]⟩ : ByteArray)
/-! ### The order -/
def less : List Nat → List Nat → Bool
  | _, [] => false
  | [], _ :: _ => true
  | a :: x, b :: y => decide (a < b) || (a == b && less x y)
theorem less_irrefl : ∀ l : List Nat, less l l = false
  | [] => rfl
  | a :: x => by simp [less, less_irrefl x]
end Go.Proofs.Ytcnnijkgiioniaa.NmSpec
