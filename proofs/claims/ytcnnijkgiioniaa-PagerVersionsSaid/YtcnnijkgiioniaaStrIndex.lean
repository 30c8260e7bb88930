/-
  strings.Index, of one octet.
-/
import Derived.Test.YtcnnijkgiioniaaProg
import Derived.WalkKit
import Derived.Lib.Bytealg
import Derived.Laws.Externs
import Derived.BigCall
import Derived.BigGuard
import Derived.Outline
import Derived.Test.YtcnnijkgiioniaaV0
namespace Go.Proofs.Ytcnnijkgiioniaa.StrIndex
open Go.RowKit Go.Proofs.YtcnnijkgiioniaaW.PrintWords

set_option maxHeartbeats 1000000 in
set_option maxRecDepth 100000 in
theorem byte_any (s : ByteArray) (c : Int) (w : World) :
    Calls Try.prog 62 #[.string s, .int .u8 c] w fun e w' => e = .returned (.int .i64 (Lib.indexByte s.data.toList c.toNat.toUInt8)) ∧ w' = w := by
  have hx : ∀ w, (callFunc 66 #[.string s, .int .u8 c]).run Try.prog w = .ok (.value (.int .i64 (Lib.indexByte s.data.toList c.toNat.toUInt8))) w := fun w => by
    rw [run_callFunc_extern Try.func66 (by kernel_rfl) (by kernel_rfl) (by kernel_rfl) (e := Extern.BytealgIndexByte.indexByte) (by kernel_rfl), Lib.run_indexByteString]
    rfl
  go_enter Try.func62, Try.ntmps62
  go_wp2
  go_ret
  exact ⟨rfl, rfl⟩

/-- Where an octet stands first; -1: nowhere. -/
def idx (s : ByteArray) (c : UInt8) : Int := Lib.indexByte s.data.toList c
set_option maxHeartbeats 1000000 in
set_option maxRecDepth 100000 in
theorem lite_any (s t : ByteArray) (c : UInt8) (ht : t.data.toList = [c]) (w : World) :
    Calls Try.prog 60 #[.string s, .string t] w fun e w' => e = .returned (.int .i64 (idx s c)) ∧ w' = w := by
  have hsz : t.size = 1 := by
    have := congrArg List.length ht
    rw [Array.length_toList] at this
    exact this
  have hs1 : (t.size : Int) = 1 := by omega
  have h0 : 0 < t.size := by omega
  have hc : t[0]'h0 = c := by
    have : t.data.toList[0]? = some c := by rw [ht]; rfl
    rw [List.getElem?_eq_getElem (by rw [ht]; simp)] at this
    have h2 : t.data[0] = c := by simpa using this
    exact h2
  have C := byte_any s (c.toNat : Int) w
  have hcc : ((c.toNat : Int)).toNat.toUInt8 = c := by simp
  rw [hcc] at C
  unfold idx
  by_cases hst : t.toList = s.toList
  · have hb : (t.toList == s.toList) = true := by simpa using hst
    have hi : Lib.indexByte s.data.toList c = 0 := by
      rw [ByteArray.toList_eq, ByteArray.toList_eq, ht] at hst
      rw [← hst]
      simp [Lib.indexByte]
    rw [hi]
    clear C hi hst
    go_enter Try.func60, Try.ntmps60
    go_wp2_with fail
    go_ret
    exact ⟨rfl, rfl⟩
  · have hb : (t.toList == s.toList) = false := by simpa using hst
    clear hst
    go_enter Try.func60, Try.ntmps60
    go_wp2_with fail
    refine C.mono ?_
    rintro e w1 ⟨rfl, rfl⟩
    go_wp2
    go_ret
    exact ⟨rfl, rfl⟩
set_option maxHeartbeats 1000000 in
theorem index_any (s t : ByteArray) (c : UInt8) (ht : t.data.toList = [c]) (w : World) :
    Calls Try.prog 53 #[.string s, .string t] w fun e w' => e = .returned (.int .i64 (idx s c)) ∧ w' = w := by
  have C := lite_any s t c ht w
  go_enter Try.func53, Try.ntmps53
  go_wp2_with fail
  refine C.mono ?_
  rintro e w1 ⟨rfl, rfl⟩
  go_wp2
  go_ret
  exact ⟨rfl, rfl⟩
end Go.Proofs.Ytcnnijkgiioniaa.StrIndex
