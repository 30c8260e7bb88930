/-
  layer 1: THE PRINTED FUNCTIONS' ANSWERS in NmSpec's words: the program's, and the document's.
-/
import Derived.Test.YtcnnijkgiioniaaProg
import Derived.Test.YtcnnijkgiioniaaCmp
import Derived.Test.YtcnnijkgiioniaaIdxV
import Derived.Test.YtcnnijkgiioniaaName
import Derived.Test.YtcnnijkgiioniaaNameW
import Derived.Test.YtcnnijkgiioniaaNmSpec
import Derived.Test.YtcnnijkgiioniaaPureKit
import Derived.Test.YtcnnijkgiioniaaPx2
import Derived.Test.YtcnnijkgiioniaaPx3
import Derived.Test.YtcnnijkgiioniaaStrIndex
import Derived.Test.YtcnnijkgiioniaaV0
set_option linter.unusedVariables false
set_option linter.unusedSimpArgs false
namespace Go.Proofs.Ytcnnijkgiioniaa.NmRef
open Go.RowKit Go.Proofs.Ytcnnijkgiioniaa.P Go.Proofs.YtcnnijkgiioniaaW.PrintWords Go.Proofs.YtcnnijkgiioniaaW.PrintLast Go.Proofs.YtcnnijkgiioniaaW.PrintMore Go.Proofs.Ytcnnijkgiioniaa.PureKit Go.Proofs.Ytcnnijkgiioniaa.Name Go.Proofs.Ytcnnijkgiioniaa.NameW Go.Proofs.Ytcnnijkgiioniaa.NmSpec

def cutK (s : ByteArray) : ByteArray := if s.size > 80 then s.extract 0 80 else s
theorem small_cutK (s : ByteArray) : (cutK s).size ≤ 80 := by
  unfold cutK
  split
  · rw [ByteArray.size_extract]; omega
  · omega
theorem key_few (s : ByteArray) : cellarerlaw01_Few.f s = some (cutK s) := by
  unfold cellarerlaw01_Few.f cutK
  by_cases h : s.size > 80
  · rw [if_pos (by omega), if_pos (by omega), if_pos (by omega), if_pos h]
  · rw [if_neg (by omega), if_neg h]
/-! ### Kinds -/
/-! ### Begins with -/
theorem begins (s t : ByteArray) (h : t.size ≤ s.size) : ((s.extract 0 ((t.size : Int) : Int).toNat).toList == t.toList) = decide (oc t <+: oc s) := by
  rw [Bool.eq_iff_iff, beq_iff_eq, decide_eq_true_iff, toList_oc, Int.toNat_natCast, oc_take, List.prefix_iff_eq_take, oc_length]
  exact eq_comm
theorem no_begin {s t : ByteArray} (h : ¬ t.size ≤ s.size) : decide (oc t <+: oc s) = false := by
  refine decide_eq_false fun hp => h ?_
  have := hp.length_le
  rwa [oc_length, oc_length] at this
theorem has_prefix (s t : ByteArray) : stringslite_HasPrefix.f s t = some (decide (oc t <+: oc s)) := by
  unfold stringslite_HasPrefix.f
  by_cases h : t.size ≤ s.size
  · rw [if_pos (by omega), if_pos (by omega), if_pos (by omega), begins s t h]
  · rw [if_neg (by omega), no_begin h]
theorem under_is (s t : ByteArray) : name_Under.f s t = some (decide (oc t <+: oc s)) := by
  unfold name_Under.f strings_HasPrefix.f
  rw [has_prefix]
  rfl
theorem cut_prefix (s t : ByteArray) : strings_CutPrefix.f s t = some (if oc t <+: oc s then (s.extract t.size s.size, true) else (s, false)) := by
  unfold strings_CutPrefix.f stringslite_CutPrefix.f
  rw [has_prefix]
  by_cases h : oc t <+: oc s
  · have hl := h.length_le
    rw [oc_length, oc_length] at hl
    rw [if_pos h, Option.bind_some, if_pos (decide_eq_true h), if_pos (by omega), if_pos (by omega)]
    simp
  · rw [if_neg h, Option.bind_some, if_neg (by simp [h])]
    simp
/-! ### A group -/
theorem index_in {c : UInt8} : ∀ {a : List UInt8} (b : List UInt8), c ∉ a → Lib.indexByte (a ++ c :: b) c = (a.length : Int)
  | [], b, _ => by simp [Lib.indexByte]
  | x :: r, b, h => by
    simp only [List.mem_cons, not_or] at h
    have hx : (x == c) = false := by simpa using fun e => h.1 e.symm
    have ih := index_in b h.2
    rw [List.cons_append, Lib.indexByte, hx, ih]
    have : ((r.length : Int) == -1) = false := by simp
    rw [this]
    simp
theorem index_no {c : UInt8} : ∀ {a : List UInt8}, c ∉ a → Lib.indexByte a c = -1
  | [], _ => rfl
  | x :: r, h => by
    simp only [List.mem_cons, not_or] at h
    have hx : (x == c) = false := by simpa using fun e => h.1 e.symm
    rw [Lib.indexByte, hx, index_no h.2]
    simp
theorem nat_mem {c : UInt8} {l : List UInt8} : c.toNat ∈ l.map UInt8.toNat ↔ c ∈ l := by
  rw [List.mem_map]
  constructor
  · rintro ⟨x, hx, e⟩
    rw [← UInt8.toNat_inj.1 e]
    exact hx
  · exact fun h => ⟨c, h, rfl⟩
/-- Where an octet stands, by the numbers. -/
theorem idx_none {s : ByteArray} {c : UInt8} (h : c.toNat ∉ oc s) : StrIndex.idx s c = -1 := index_no (fun hc => h (nat_mem.2 hc))
theorem idx_some {s : ByteArray} {c : UInt8} {a b : List Nat} (h : oc s = a ++ c.toNat :: b) (ha : c.toNat ∉ a) : StrIndex.idx s c = (a.length : Int) := by
  unfold StrIndex.idx
  obtain ⟨a', r', h1, h2, h3⟩ := List.map_eq_append_iff.1 (show s.data.toList.map UInt8.toNat = a ++ c.toNat :: b from h)
  obtain ⟨c', b', h4, h5, h6⟩ := List.map_eq_cons_iff.1 h3
  obtain rfl := UInt8.toNat_inj.1 h5
  rw [h1, h4, index_in b' (fun hc => ha (by rw [← h2]; exact nat_mem.2 hc)), ← h2, List.length_map]
theorem group_is (key pre delim : ByteArray) (hk : key.size ≤ 1000) (hp : pre.size ≤ 1000) : Ev (fun k => name_Group.f k key pre delim) (grp key pre delim) := by
  have no : ∀ x, ¬ Ok key pre delim → Ev (fun k => name_Group.j0 k pre delim x true) (grp key pre delim) := fun x h => by
    rw [grp_not h]
    refine ev_succ ?_
    simp only [name_Group.j0]
    exact ev_pos trivial (ev_now _)
  unfold name_Group.f
  refine ev_is (cut_prefix key pre) ?_
  unfold name_Key.f name_Prefix.f name_Delim.f
  simp only [Option.bind_some]
  by_cases h1 : keyB key = true
  · refine ev_pos h1 ?_
    by_cases h2 : prefixB pre = true
    · refine ev_pos h2 ?_
      by_cases h3 : delimB delim = true
      · refine ev_pos h3 ?_
        by_cases h4 : delim.toList = []
        · refine ev_pos h4 (no _ fun hq => hq.2.2.2.1 (toList_nil.1 h4))
        · refine ev_neg h4 ?_
          by_cases h5 : oc pre <+: oc key
          · have hok : Ok key pre delim := ⟨h1, h2, h3, fun e => h4 (toList_nil.2 e), h5⟩
            obtain ⟨d, hd⟩ := hok.delim
            obtain ⟨c, hc, hcd⟩ : ∃ c : UInt8, delim.data.toList = [c] ∧ c.toNat = d := by
              unfold oc at hd
              obtain ⟨c, r, e1, e2, e3⟩ := List.map_eq_cons_iff.1 hd
              rw [List.map_eq_nil_iff] at e3
              exact ⟨c, by rw [e1, e3], e2⟩
            subst hcd
            rw [if_pos h5]
            refine ev_succ ?_
            simp only [name_Group.j0]
            refine ev_neg (by simp) ?_
            have hl := h5.length_le
            rw [oc_length, oc_length] at hl
            have hrest : oc (key.extract pre.size key.size) = (oc key).drop pre.size := oc_drop _ _
            have hrs : (key.extract pre.size key.size).size = key.size - pre.size := by rw [← oc_length, hrest, List.length_drop, oc_length]
            refine ev_is (x := StrIndex.idx (key.extract pre.size key.size) c) (by unfold strings_Index.f; rw [hc]) ?_
            rcases first_of c.toNat ((oc key).drop pre.size) with hn | ⟨a, b, hk', hn⟩
            · rw [grp_none hok hd hn, idx_none (by rw [hrest]; exact hn)]
              exact ev_pos (by omega) (ev_now _)
            · have hko : oc key = oc pre ++ (a ++ c.toNat :: b) := by rw [hok.rest, hk']
              have hlen : key.size = pre.size + a.length + b.length + 1 := by rw [← oc_length, hko, ← oc_length]; simp; omega
              rw [grp_some hok hd hko hn, idx_some (by rw [hrest]; exact hk') hn]
              rw [wrap_id (by omega) (by omega)]
              have e1 : ((a.length : Int) + 1).toNat = a.length + 1 := by omega
              rw [e1]
              have hs1 : ((key.extract pre.size key.size).extract 0 (a.length + 1)).size = a.length + 1 := by rw [← oc_length, oc_take, List.length_take, oc_length, hrs]; omega
              refine ev_neg (by omega) (ev_pos (by omega) (ev_pos (by rw [hrs]; omega) (ev_pos (by rw [hs1]; omega) ?_)))
              have : pre ++ (key.extract pre.size key.size).extract 0 (a.length + 1) = key.extract 0 (pre.size + a.length + 1) := by
                apply oc_inj
                rw [oc_append, oc_take, hrest, oc_grp hko, hk', show a ++ c.toNat :: b = (a ++ [c.toNat]) ++ b by simp, List.take_left' (by simp)]
              rw [this]
              exact ev_now _
          · rw [if_neg h5]
            exact no _ fun hq => h5 hq.2.2.2.2
      · exact ev_neg h3 (no _ fun hq => h3 hq.2.2.1)
    · exact ev_neg h2 (no _ fun hq => h2 hq.2.1)
  · exact ev_neg h1 (no _ fun hq => h1 hq.1)
end Go.Proofs.Ytcnnijkgiioniaa.NmRef
