/-
  layer 3: A NUMBER's TEXT of one digit is read as it is: '(span).number', as far as the chapter's examples ask.
-/
import Derived.Test.YtabkbjhhhfeanaaDoorShelf
import Derived.Test.YtabkbjhhhfeanaaDoorPureKit
import Derived.LoopTactic
import Derived.BigQuiet
import Derived.Outline
import Derived.Lib.AtoiErrMem
set_option linter.unusedVariables false
namespace Go.Proofs.YtabkbjhhhfeanaaDoor.Num
open Go.RowKit Go.Proofs.YtabkbjhhhfeanaaDoorW.PrintWords Go.Proofs.YtabkbjhhhfeanaaDoor.PureKit

/-- What a number's text of one digit is. -/
def numF (t : ByteArray) : Option (Int × Bool) := match t.data.toList with
  | [c] => if 48 ≤ c.toNat ∧ c.toNat ≤ 57 then some (((c.toNat - 48 : Nat) : Int), true) else none
  | _ => none
set_option maxRecDepth 100000 in
set_option maxHeartbeats 1600000 in
theorem digit_any (a0 : ByteArray) (c : UInt8) (hc : a0.data.toList = [c]) (h0 : 48 ≤ c.toNat) (h1 : c.toNat ≤ 57) (w : World) :
    Calls Tryd.prog 24 #[.string a0] w fun e w' => e = .returned (.tuple #[.int .i64 ((c.toNat - 48 : Nat) : Int), .bool true]) ∧ Below w.heap.size w w' := by
  obtain ⟨n, hn⟩ : ∃ n, n = c.toNat - 48 := ⟨_, rfl⟩
  have hsz : a0.size = 1 := by
    have := congrArg List.length hc
    rw [Array.length_toList] at this
    exact this
  have hat : Lib.atoi a0.data.toList = some (n : Int) := by
    rw [hc, hn]
    have : ∀ x : Fin 256, 48 ≤ x.val → x.val ≤ 57 → Lib.atoi [UInt8.ofNat x.val] = some (((x.val - 48 : Nat) : Int)) := by decide +kernel
    have e := this ⟨c.toNat, c.toNat_lt⟩ h0 h1
    simpa using e
  have hit : (⟨(Lib.decDigits n).toArray⟩ : ByteArray) = a0 := by
    have e : Lib.decDigits n = [c] := by
      rw [Lib.decDigits, dif_pos (by omega)]
      congr 1
      rw [hn, ← UInt8.toNat_inj, UInt8.toNat_ofNat']
      omega
    rw [e, ← hc]
  have CA := Tryd.strconv_Atoi a0 n (by omega) hat w
  have CI := fun W => Tryd.strconv_Itoa_small n (by omega) W
  rw [hit] at CI
  rw [← hn]
  have hnle : n ≤ 9 := by omega
  have hp0 : (0 : Int) ≤ (n : Int) := by omega
  have hp1 : (n : Int) ≤ 1099511627775 := by omega
  clear hat hit hc hn h0 h1
  go_enter Tryd.func24, Tryd.ntmps24
  go_wp2_with fail
  refine CA.mono ?_
  rintro e w1 ⟨rfl, t, rfl⟩
  have HB := Aside0.mk (Lib.bytesWorld_below w 5 t)
  generalize Lib.bytesWorld w 5 t = w2 at *
  clear CA
  go_wp2_with fail
  refine (CI _).mono ?_
  rintro e w3 ⟨rfl, rfl⟩
  clear CI
  go_wp2
  go_ret2
  exact ⟨rfl, HB.out⟩
theorem number_any (a0 : ByteArray) (r1 : Int) (r2 : Bool) (w : World) (h : numF a0 = some (r1, r2)) :
    Calls Tryd.prog 24 #[.string a0] w fun e w' => e = .returned (.tuple #[.int .i64 r1, .bool r2]) ∧ Below w.heap.size w w' := by
  unfold numF at h
  split at h
  · rename_i c hc
    split at h
    · rename_i hb
      obtain ⟨rfl, rfl⟩ := Prod.mk.inj (Option.some.inj h)
      exact digit_any a0 c hc hb.1 hb.2 w
    · cases h
  · cases h
end Go.Proofs.YtabkbjhhhfeanaaDoor.Num
