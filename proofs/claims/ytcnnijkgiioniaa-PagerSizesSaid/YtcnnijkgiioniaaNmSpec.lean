/-
  layer 1: NAMES IN PLAIN WORDS: texts' octets as lists of numbers; a group's end; what is behind all that begin with a text; the order.
-/
import Derived.Test.YtcnnijkgiioniaaPureKit
import Derived.Test.YtcnnijkgiioniaaCmp
import Derived.Test.YtcnnijkgiioniaaNameW
import Derived.Test.YtcnnijkgiioniaaStrIndex
namespace Go.Proofs.Ytcnnijkgiioniaa.NmSpec
open Go.RowKit Go.Proofs.YtcnnijkgiioniaaW.PrintWords Go.Proofs.Ytcnnijkgiioniaa.PureKit Go.Proofs.Ytcnnijkgiioniaa.Name Go.Proofs.Ytcnnijkgiioniaa.NameW

theorem ev_succ {α : Type} {g : Nat → Option α} {r : α} (h : Ev (fun k => g (k + 1)) r) : Ev g r := ev_step (fun _ => rfl) h
theorem toList_oc {s t : ByteArray} : s.toList = t.toList ↔ oc s = oc t := by
  constructor
  · intro h
    rw [ByteArray.toList_eq, ByteArray.toList_eq] at h
    unfold oc
    rw [h]
  · intro h
    rw [oc_inj h]
theorem toList_nil {s : ByteArray} : s.toList = [] ↔ oc s = [] := by
  rw [ByteArray.toList_eq]
  simp [oc]
theorem oc_empty : oc (⟨#[]⟩ : ByteArray) = [] := rfl
/-- Octets as a text. -/
def ofL (l : List Nat) : ByteArray := strOfNums (l.map fun x => ((x : Nat) : Int))
theorem oc_ofL {l : List Nat} (h : ∀ x ∈ l, x < 256) : oc (ofL l) = l := nums_oc l h
theorem oc_take (s : ByteArray) (n : Nat) : oc (s.extract 0 n) = (oc s).take n := by rw [oc_extract]; simp
theorem oc_drop (s : ByteArray) (n : Nat) : oc (s.extract n s.size) = (oc s).drop n := by
  rw [oc_extract, List.take_of_length_le]
  rw [List.length_drop, oc_length]
  omega
/-! ### Kinds -/
def Plain (l : List Nat) : Prop := ∀ x ∈ l, 32 ≤ x ∧ x ≤ 126
theorem all_plain {l : List Nat} : l.all plainB = true ↔ Plain l := by
  rw [List.all_eq_true]
  unfold Plain plainB
  simp
theorem isB_iff {least most : Nat} {p : Nat → Bool} {s : ByteArray} : isB least most p s = true ↔ least ≤ (oc s).length ∧ (oc s).length ≤ most ∧ (oc s).all p = true := by
  rw [oc_length]
  unfold isB
  simp [and_assoc]
theorem keyB_iff {s : ByteArray} : keyB s = true ↔ 1 ≤ (oc s).length ∧ (oc s).length ≤ 60 ∧ Plain (oc s) := by
  unfold keyB
  rw [isB_iff, all_plain]
theorem prefixB_iff {s : ByteArray} : prefixB s = true ↔ (oc s).length ≤ 60 ∧ Plain (oc s) := by
  unfold prefixB
  rw [isB_iff, all_plain]
  simp
theorem delimB_iff {s : ByteArray} : delimB s = true ↔ (oc s).length ≤ 1 ∧ Plain (oc s) := by
  unfold delimB
  rw [isB_iff, all_plain]
  simp
theorem Plain.append {a b : List Nat} (ha : Plain a) (hb : Plain b) : Plain (a ++ b) := fun x hx => by
  rcases List.mem_append.1 hx with h | h
  · exact ha x h
  · exact hb x h
theorem Plain.left {a b : List Nat} (h : Plain (a ++ b)) : Plain a := fun x hx => h x (List.mem_append_left _ hx)
theorem Plain.right {a b : List Nat} (h : Plain (a ++ b)) : Plain b := fun x hx => h x (List.mem_append_right _ hx)
theorem Plain.lt {a : List Nat} (h : Plain a) : ∀ x ∈ a, x < 256 := fun x hx => by have := h x hx; omega

/-! ### A group's end -/
/-- Behind the first d, from n on. -/
def cutAt (d : Nat) : List Nat → Nat → Option Nat
  | [], _ => none
  | x :: r, n => if x = d then some (n + 1) else cutAt d r (n + 1)
theorem cutAt_some {d : Nat} : ∀ {a : List Nat} (b : List Nat) (n : Nat), d ∉ a → cutAt d (a ++ d :: b) n = some (n + a.length + 1)
  | [], b, n, _ => by simp [cutAt]
  | x :: r, b, n, h => by
    simp only [List.mem_cons, not_or] at h
    rw [List.cons_append, cutAt, if_neg (fun e => h.1 e.symm), cutAt_some b (n + 1) h.2]
    simp only [List.length_cons]
    congr 1
    omega
theorem cutAt_none {d : Nat} : ∀ {a : List Nat} (n : Nat), d ∉ a → cutAt d a n = none
  | [], n, _ => rfl
  | x :: r, n, h => by
    simp only [List.mem_cons, not_or] at h
    rw [cutAt, if_neg (fun e => h.1 e.symm), cutAt_none (n + 1) h.2]
theorem first_of (d : Nat) : ∀ l : List Nat, d ∉ l ∨ ∃ a b, l = a ++ d :: b ∧ d ∉ a
  | [] => .inl (by simp)
  | x :: r => by
    by_cases e : x = d
    · exact .inr ⟨[], r, by simp [e], by simp⟩
    · rcases first_of d r with h | ⟨a, b, h, hd⟩
      · exact .inl (by simp only [List.mem_cons, not_or]; exact ⟨fun q => e q.symm, h⟩)
      · exact .inr ⟨x :: a, b, by rw [h]; rfl, by simp only [List.mem_cons, not_or]; exact ⟨fun q => e q.symm, hd⟩⟩
/-- May a group be asked for? -/
def Ok (key pre delim : ByteArray) : Prop := keyB key = true ∧ prefixB pre = true ∧ delimB delim = true ∧ oc delim ≠ [] ∧ oc pre <+: oc key
instance (key pre delim : ByteArray) : Decidable (Ok key pre delim) := by unfold Ok; infer_instance
/-- A key's group. -/
def grp (key pre delim : ByteArray) : ByteArray × Bool :=
  if Ok key pre delim then (match cutAt ((oc delim).headD 0) ((oc key).drop pre.size) pre.size with
    | some n => (key.extract 0 n, true)
    | none => ((⟨#[]⟩ : ByteArray), false))
  else ((⟨#[]⟩ : ByteArray), false)
theorem grp_not {key pre delim : ByteArray} (h : ¬ Ok key pre delim) : grp key pre delim = ((⟨#[]⟩ : ByteArray), false) := if_neg h
theorem Ok.delim {key pre delim : ByteArray} (h : Ok key pre delim) : ∃ d, oc delim = [d] := by
  obtain ⟨_, _, h3, h4, _⟩ := h
  rw [delimB_iff] at h3
  cases hd : oc delim with
  | nil => exact absurd hd h4
  | cons d r =>
    rw [hd] at h3
    cases r with
    | nil => exact ⟨d, rfl⟩
    | cons _ _ => simp at h3
theorem Ok.rest {key pre delim : ByteArray} (h : Ok key pre delim) : oc key = oc pre ++ (oc key).drop pre.size := by
  obtain ⟨r, hr⟩ := h.2.2.2.2
  rw [← hr, ← oc_length, List.drop_left]
theorem grp_none {key pre delim : ByteArray} {d : Nat} (h : Ok key pre delim) (hd : oc delim = [d]) (hn : d ∉ (oc key).drop pre.size) : grp key pre delim = ((⟨#[]⟩ : ByteArray), false) := by
  unfold grp
  rw [if_pos h, hd]
  simp only [List.headD_cons]
  rw [cutAt_none _ hn]
theorem grp_some {key pre delim : ByteArray} {d : Nat} {a b : List Nat} (h : Ok key pre delim) (hd : oc delim = [d]) (hk : oc key = oc pre ++ (a ++ d :: b)) (hn : d ∉ a) :
    grp key pre delim = (key.extract 0 (pre.size + a.length + 1), true) := by
  unfold grp
  rw [if_pos h, hd]
  simp only [List.headD_cons]
  rw [show (oc key).drop pre.size = a ++ d :: b by rw [hk, ← oc_length, List.drop_left], cutAt_some _ _ hn]
theorem oc_grp {key pre : ByteArray} {d : Nat} {a b : List Nat} (hk : oc key = oc pre ++ (a ++ d :: b)) : oc (key.extract 0 (pre.size + a.length + 1)) = oc pre ++ (a ++ [d]) := by
  rw [oc_take, hk, ← oc_length]
  rw [show oc pre ++ (a ++ d :: b) = (oc pre ++ (a ++ [d])) ++ b by simp]
  rw [List.take_left']
  simp
  omega
/-- All that a group can be. -/
theorem grp_cases (key pre delim : ByteArray) : (¬ Ok key pre delim ∧ grp key pre delim = ((⟨#[]⟩ : ByteArray), false)) ∨
    (Ok key pre delim ∧ ∃ d, oc delim = [d] ∧ ((d ∉ (oc key).drop pre.size ∧ grp key pre delim = ((⟨#[]⟩ : ByteArray), false)) ∨
      ∃ a b g, oc key = oc pre ++ (a ++ d :: b) ∧ d ∉ a ∧ oc g = oc pre ++ (a ++ [d]) ∧ grp key pre delim = (g, true))) := by
  by_cases h : Ok key pre delim
  · obtain ⟨d, hd⟩ := h.delim
    refine .inr ⟨h, d, hd, ?_⟩
    rcases first_of d ((oc key).drop pre.size) with hn | ⟨a, b, hk, hn⟩
    · exact .inl ⟨hn, grp_none h hd hn⟩
    · have hk' : oc key = oc pre ++ (a ++ d :: b) := by rw [h.rest, hk]
      exact .inr ⟨a, b, _, hk', hn, oc_grp hk', grp_some h hd hk' hn⟩
  · exact .inl ⟨h, grp_not h⟩

/-! ### Behind all -/
def afterR : List Nat → List Nat
  | [] => []
  | x :: r => if x < 126 then (x + 1) :: r else afterR r
def afterL (l : List Nat) : List Nat := (afterR l.reverse).reverse
theorem afterL_nil : afterL [] = [] := rfl
theorem afterL_snoc (l : List Nat) (x : Nat) : afterL (l ++ [x]) = if x < 126 then l ++ [x + 1] else afterL l := by
  unfold afterL
  rw [List.reverse_append, List.reverse_singleton, List.singleton_append, afterR]
  split
  · simp
  · rfl
theorem snoc_cases {α : Type} (l : List α) : l = [] ∨ ∃ l' u, l = l' ++ [u] := by
  rcases List.eq_nil_or_concat l with h | ⟨l', u, h⟩
  · exact .inl h
  · exact .inr ⟨l', u, by simpa using h⟩
theorem after_aux : ∀ (n : Nat) (p : List Nat), p.length = n → (afterL p = [] ∧ ∀ y ∈ p, 126 ≤ y) ∨ ∃ q x t, p = q ++ x :: t ∧ x < 126 ∧ (∀ y ∈ t, 126 ≤ y) ∧ afterL p = q ++ [x + 1]
  | 0, p, h => by
    obtain rfl := List.length_eq_zero_iff.1 h
    exact .inl ⟨rfl, by simp⟩
  | n + 1, p, h => by
    rcases snoc_cases p with rfl | ⟨p', u, rfl⟩
    · simp at h
    · rw [afterL_snoc]
      by_cases hu : u < 126
      · exact .inr ⟨p', u, [], rfl, hu, by simp, if_pos hu⟩
      · rw [if_neg hu]
        rcases after_aux n p' (by simpa using h) with ⟨h1, h2⟩ | ⟨q, x, t, h1, h2, h3, h4⟩
        · refine .inl ⟨h1, fun y hy => ?_⟩
          rcases List.mem_append.1 hy with hy | hy
          · exact h2 y hy
          · simp at hy
            omega
        · refine .inr ⟨q, x, t ++ [u], by rw [h1]; simp, h2, fun y hy => ?_, h4⟩
          rcases List.mem_append.1 hy with hy | hy
          · exact h3 y hy
          · simp at hy
            omega
theorem after_cases (p : List Nat) : (afterL p = [] ∧ ∀ y ∈ p, 126 ≤ y) ∨ ∃ q x t, p = q ++ x :: t ∧ x < 126 ∧ (∀ y ∈ t, 126 ≤ y) ∧ afterL p = q ++ [x + 1] := after_aux _ p rfl
theorem after_plain {p : List Nat} (h : Plain p) : Plain (afterL p) := by
  rcases after_cases p with ⟨h1, _⟩ | ⟨q, x, t, rfl, h2, h3, h4⟩
  · rw [h1]
    intro x hx
    simp at hx
  · rw [h4]
    refine h.left.append fun y hy => ?_
    simp at hy
    have := h x (by simp)
    omega
theorem after_len (p : List Nat) : (afterL p).length ≤ p.length := by
  rcases after_cases p with ⟨h1, _⟩ | ⟨q, x, t, rfl, h2, h3, h4⟩
  · rw [h1]; simp
  · rw [h4]; simp
def afterB (s : ByteArray) : ByteArray := if prefixB s = true then ofL (afterL (oc s)) else (⟨#[]⟩ : ByteArray)
theorem oc_afterB {s : ByteArray} (h : prefixB s = true) : oc (afterB s) = afterL (oc s) := by
  unfold afterB
  rw [if_pos h]
  exact oc_ofL (after_plain (prefixB_iff.1 h).2).lt

/-! ### The order -/
def less : List Nat → List Nat → Bool
  | _, [] => false
  | [], _ :: _ => true
  | a :: x, b :: y => decide (a < b) || (a == b && less x y)
theorem less_is : ∀ x y : List UInt8, Op.bytesLess x y = less (x.map UInt8.toNat) (y.map UInt8.toNat)
  | x, [] => by cases x <;> simp [Op.bytesLess, less]
  | [], _ :: _ => by simp [Op.bytesLess, less]
  | a :: x, b :: y => by
    rw [List.map_cons, List.map_cons, less, Op.bytesLess, less_is x y]
    congr 1
    congr 1
    rw [Bool.eq_iff_iff]
    simp only [beq_iff_eq]
    exact UInt8.toNat_inj.symm
theorem less_oc (s t : ByteArray) : Op.bytesLess s.toList t.toList = less (oc s) (oc t) := by
  rw [less_is, ByteArray.toList_eq, ByteArray.toList_eq]
  rfl
theorem less_irrefl : ∀ l : List Nat, less l l = false
  | [] => rfl
  | a :: x => by simp [less, less_irrefl x]
theorem less_pre : ∀ {p k : List Nat}, p <+: k → less k p = false
  | [], k, _ => by cases k <;> rfl
  | y :: p, [], h => by simp at h
  | y :: p, z :: k, h => by
    rw [List.cons_prefix_cons] at h
    obtain ⟨rfl, h⟩ := h
    simp [less, less_pre h]
theorem less_next {x : Nat} {u : List Nat} : ∀ q : List Nat, less (q ++ x :: u) (q ++ [x + 1]) = true
  | [] => by simp [less]
  | y :: q => by simp [less, less_next q]
theorem less_after {p k : List Nat} (h : p <+: k) (hn : afterL p ≠ []) : less k (afterL p) = true := by
  rcases after_cases p with ⟨h1, _⟩ | ⟨q, x, t, rfl, _, _, h4⟩
  · exact absurd h1 hn
  · obtain ⟨r, rfl⟩ := h
    rw [h4, List.append_assoc, List.cons_append]
    exact less_next q
theorem pre_top : ∀ {p k : List Nat}, (∀ y ∈ p, 126 ≤ y) → (∀ y ∈ k, y ≤ 126) → less k p = false → p <+: k
  | [], k, _, _, _ => by simp
  | y :: p, [], _, _, h => by simp [less] at h
  | y :: p, z :: k, hp, hk, h => by
    have h1 := hp y (by simp)
    have h2 := hk z (by simp)
    simp only [less, Bool.or_eq_false_iff, decide_eq_false_iff_not, Bool.and_eq_false_iff, beq_eq_false_iff_ne] at h
    have e : z = y := by omega
    subst e
    rw [List.cons_prefix_cons]
    refine ⟨rfl, pre_top (fun u hu => hp u (by simp [hu])) (fun u hu => hk u (by simp [hu])) ?_⟩
    rcases h.2 with h' | h'
    · exact absurd rfl h'
    · exact h'
theorem pre_mid {x : Nat} {t : List Nat} (ht : ∀ y ∈ t, 126 ≤ y) : ∀ (q k : List Nat), (∀ y ∈ k, y ≤ 126) → less k (q ++ x :: t) = false → less k (q ++ [x + 1]) = true → q ++ x :: t <+: k
  | [], [], _, h, _ => by simp [less] at h
  | [], z :: k, hk, h, h' => by
    simp only [List.nil_append, less, Bool.or_eq_false_iff, decide_eq_false_iff_not, Bool.and_eq_false_iff, beq_eq_false_iff_ne, Bool.or_eq_true, decide_eq_true_eq, Bool.and_eq_true, beq_iff_eq] at h h'
    have e : z = x := by
      rcases h' with h' | ⟨_, h'⟩
      · omega
      · cases k <;> cases h'
    subst e
    rw [List.nil_append, List.cons_prefix_cons]
    refine ⟨rfl, pre_top ht (fun u hu => hk u (by simp [hu])) ?_⟩
    rcases h.2 with h'' | h''
    · exact absurd rfl h''
    · exact h''
  | y :: q, [], _, h, _ => by simp [less] at h
  | y :: q, z :: k, hk, h, h' => by
    simp only [List.cons_append, less, Bool.or_eq_false_iff, decide_eq_false_iff_not, Bool.and_eq_false_iff, beq_eq_false_iff_ne, Bool.or_eq_true, decide_eq_true_eq, Bool.and_eq_true, beq_iff_eq] at h h'
    rcases h' with h' | ⟨rfl, h'⟩
    · exact absurd h' h.1
    · rw [List.cons_append, List.cons_prefix_cons]
      refine ⟨rfl, pre_mid ht q k (fun u hu => hk u (by simp [hu])) ?_ h'⟩
      rcases h.2 with h'' | h''
      · exact absurd rfl h''
      · exact h''
/-- What begins with p, by the order. -/
theorem in_iff {p k : List Nat} (hk : Plain k) : (less k p = false ∧ (afterL p = [] ∨ less k (afterL p) = true)) ↔ p <+: k := by
  constructor
  · rintro ⟨h1, h2⟩
    rcases after_cases p with ⟨_, h4⟩ | ⟨q, x, t, rfl, _, h3, h4⟩
    · exact pre_top h4 (fun y hy => (hk y hy).2) h1
    · rw [h4] at h2
      refine pre_mid h3 q k (fun y hy => (hk y hy).2) h1 ?_
      rcases h2 with h2 | h2
      · simp at h2
      · exact h2
  · intro h
    refine ⟨less_pre h, ?_⟩
    by_cases hn : afterL p = []
    · exact .inl hn
    · exact .inr (less_after h hn)
theorem not_under_after {p : List Nat} (h : afterL p ≠ []) : ¬ p <+: afterL p := by
  intro hp
  have h1 := less_pre hp
  have h2 : less p (afterL p) = true := less_after (List.prefix_refl p) h
  have e : afterL p = p := by
    obtain ⟨r, hr⟩ := hp
    have hl := after_len p
    rw [← hr, List.length_append] at hl
    have : r = [] := List.length_eq_zero_iff.1 (by omega)
    rw [← hr, this, List.append_nil]
  rw [e, less_irrefl] at h2
  cases h2
end Go.Proofs.Ytcnnijkgiioniaa.NmSpec
