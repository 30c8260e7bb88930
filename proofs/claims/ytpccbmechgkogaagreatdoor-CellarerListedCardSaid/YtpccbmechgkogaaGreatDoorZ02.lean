/-
  Lemmas: IdxE, PureKit, Name, IdxSpec, NameW, BkSpec, BkFar.
-/
import Derived.LoopTactic
import Derived.Test.YtpccbmechgkogaaGreatDoorProg
import Derived.Deep.QuietTactic
import Derived.BigQuiet
import Derived.Outline
import Derived.Test.YtpccbmechgkogaaGreatDoorV0
import Derived.Test.YtpccbmechgkogaaGreatDoorZ00
import Derived.Test.YtpccbmechgkogaaGreatDoorZ01
set_option linter.unusedVariables false
set_option linter.unusedSimpArgs false
namespace Go.Proofs.YtpccbmechgkogaaGreatDoor.IdxE
open Go.RowKit Go.Proofs.YtpccbmechgkogaaGreatDoor.P Go.Proofs.YtpccbmechgkogaaGreatDoorW.PrintWords
abbrev E := S79
def Tells (g : Nat) (lb : Array Value) (p : E → Bool) (w : World) (l : List E) : Prop :=
 ∀ (W : World) (x : E) (A : Option Addr) (c : Nat), x ∈ l → Below w.heap.size w W → Kd.C k63 W A x.f1.length x.f1 → x.f1.length ≤ c →
  Calls Tryz.prog g (#[.agg #[.string x.f0, .slice A x.f1.length c]] ++ lb) W fun e w' => e = .returned (.bool (p x)) ∧ Below W.heap.size W w'
def idx (p : E → Bool) (l : List E) : Int := match l.findIdx? p with
 | some i => (i : Int)
 | none => -1
theorem idx_hit (p : E → Bool) (l : List E) (k : Nat) (hk : k < l.length) (hp : p l[k] = true) (hn : ∀ j (h : j < l.length), j < k → p l[j] = false) : idx p l = (k : Int) := by
 unfold idx
 have : l.findIdx? p = some k := List.findIdx?_eq_some_iff_getElem.2 ⟨hk, hp, fun j hj => by simpa using hn j (by omega) hj⟩
 rw [this]
theorem idx_miss (p : E → Bool) (l : List E) (hn : ∀ j (h : j < l.length), p l[j] = false) : idx p l = -1 := by
 unfold idx
 have : l.findIdx? p = none := by
  rw [List.findIdx?_eq_none_iff]
  intro x hx
  obtain ⟨j, hj, rfl⟩ := List.getElem_of_mem hx
  exact hn j hj
 rw [this]
def IdxPost (w : World) (r : Int) (e : Ending) (w' : World) : Prop := e = .returned (.int .i64 r) ∧ Below w.heap.size w w'
set_option maxRecDepth 100000 in
set_option maxHeartbeats 1600000 in
theorem index_any (g : Nat) (lb : Array Value) (eg : ∀ args w, (callFunc g args).run Tryz.prog w = .ok (.enter g args) w) (p : E → Bool) (A : Option Addr) (c : Nat) (l : List E) (w : World)
  (hr : Kd.C k79 w A l.length l) (hg : Tells g lb p w l) :
  Calls Tryz.prog 92 #[.slice A l.length c, .func (.func g) #[] lb] w (IdxPost w (idx p l)) := by
 have HR := Aside0.mk hr
 have HG := Aside0.mk hg
 have hm : l.length ≤ 9223372036854775807 := hr.2.1
 clear hr hg
 have hu := Tryz.underlying79
 go_enter Tryz.func92, Tryz.ntmps92
 go_wp2
 go_loopw [8] (fun i wr => ∃ k : Nat, k ≤ l.length ∧ i = .int .i64 k ∧ Aside0 (∀ j (h : j < l.length), j < k → p l[j] = false) ∧ Aside0 (Below w.heap.size w wr)) (fun i _ => l.length - (intOf i).toNat)
 case atStart => exact ⟨0, by omega, rfl, ⟨fun j _ h => absurd h (Nat.not_lt_zero _)⟩, ⟨Below.refl _ _⟩⟩
 case round =>
  obtain ⟨k, hk, rfl, HA, HB⟩ := hrel
  by_cases hlt : k < l.length
  ·obtain ⟨ad, A1, c1, e0, h0, h1, hl1, hC1⟩ := at_T79 (Kd.C_below HR.out HB.out) (k : Int) (by omega) (by omega)
   have hx : rd_T79 l (k : Int) = l[k] := by unfold rd_T79; rw [Int.toNat_natCast, List.getD_eq_getElem?_getD, List.getElem?_eq_getElem hlt]; rfl
   rw [hx] at h0 h1 hl1 hC1
   rw [Int.toNat_natCast] at h0 h1
   cases e0
   have hcall := HG.out wr l[k] A1 c1 (List.getElem_mem hlt) HB.out hC1 hl1
   clear hC1 hl1
   have HX := Aside0.mk hx
   clear hx
   generalize hq : p l[k] = q at hcall
   have HQ := Aside0.mk hq
   clear hq
   cases q with
   | true =>
    go_wp2_with fail
    refine hcall.mono ?_
    rintro e w2 ⟨rfl, hb'⟩
    have HB2 := Aside0.mk hb'
    clear hb'
    go_wp2
    go_ret
    exact ⟨congrArg (fun z => Ending.returned (Value.int .i64 z)) (idx_hit p l k hlt HQ.out HA.out).symm, below_step HB.out HB2.out⟩
   | false =>
    go_wp2_with fail
    refine hcall.mono ?_
    rintro e w2 ⟨rfl, hb'⟩
    have HB2 := Aside0.mk hb'
    clear hb'
    go_wp2
    refine ⟨⟨k + 1, by omega, by go_num, ⟨fun j h hj => ?_⟩, ⟨below_step HB.out HB2.out⟩⟩, by simp [intOf]; omega⟩
    by_cases e : j = k
    ·subst e; exact HQ.out
    ·exact HA.out j h (by omega)
  ·have hk2 : k = l.length := by omega
   subst hk2
   go_wp2
   go_ret
   exact ⟨congrArg (fun z => Ending.returned (Value.int .i64 z)) (idx_miss p l (fun j h => HA.out j h h)).symm, HB.out⟩
def has (key : ByteArray) (x : E) : Bool := x.f0.toList == key.toList
set_option maxHeartbeats 800000 in
theorem closure_any (key : ByteArray) (x : E) (A : Option Addr) (c b : Nat) (w : World) (hb : b < w.heap.size) (hk : w.cell? ⟨b, 0, none⟩ = some (.string key)) :
  Calls Tryz.prog 93 #[.agg #[.string x.f0, .slice A x.f1.length c], .pointer (some ⟨b, 0, none⟩)] w fun e w' => e = .returned (.bool (has key x)) ∧ Below w.heap.size w w' := by
 unfold has
 have hu := Tryz.underlying79
 have hk2 : ∀ o, (w.alloc o).cell? ⟨b, 0, none⟩ = some (.string key) := fun o => by rw [World.cell?_alloc_past _ _ _ hb]; exact hk
 go_enter Tryz.func93, Tryz.ntmps93
 go_wp2
 go_ret
 exact ⟨rfl, (Below.refl _ _).alloc (Nat.le_refl _) _⟩
set_option maxRecDepth 100000 in
set_option maxHeartbeats 800000 in
theorem find_any (A : Option Addr) (c : Nat) (l : List E) (key : ByteArray) (w : World) (hr : Kd.C k79 w A l.length l) :
  Calls Tryz.prog 46 #[.slice A l.length c, .string key] w fun e w' => e = .returned (.int .i64 (idx (has key) l)) ∧ Below w.heap.size w w' := by
 have hmf : ∀ (fn : Fn) (first cap : Array Value) (w : World), (Instr.makeFunc fn first cap).run Tryz.prog w = .ok (.func fn first cap) w := fun _ _ _ _ => rfl
 have C := index_any 93 #[.pointer (some ⟨w.heap.size, 0, none⟩)] (fun args w => by rfl) (has key) A c l (w.alloc (.cells #[.string key] 9)) (Kd.C_below hr (below_alloc (Below.refl _ _) _))
  (fun W x A1 c1 _ hB _ _ => closure_any key x A1 c1 w.heap.size W (by have := hB.size; simp at this; omega) (by
   rw [hB.cell (p := ⟨w.heap.size, 0, none⟩) (by simp)]
   simp))
 clear hr
 go_enter Tryz.func46, Tryz.ntmps46
 go_wp2_with fail
 refine C.mono ?_
 rintro e w1 ⟨rfl, hb⟩
 have HB := Aside0.mk hb
 clear hb C
 go_wp2
 go_ret
 exact ⟨rfl, Below.trans ((Below.refl _ _).alloc (Nat.le_refl _) _) (HB.out.mono (by simp))⟩
end Go.Proofs.YtpccbmechgkogaaGreatDoor.IdxE
namespace Go.Proofs.YtpccbmechgkogaaGreatDoor.PureKit
open Go.RowKit Go.Proofs.YtpccbmechgkogaaGreatDoorW.PrintWords Go.Proofs.YtpccbmechgkogaaGreatDoorW.PrintMore
section
variable {α β : Type} {A B : Nat → Option α} {r : α}
end
theorem wf_i64 {x : Int} (h : (Lit.int .i64 x).wf = true) : -9223372036854775808 ≤ x ∧ x ≤ 9223372036854775807 := by
 simp [Lit.wf, IntKind.min, IntKind.max, IntKind.signed, IntKind.bits] at h
 omega
def oc (s : ByteArray) : List Nat := s.data.toList.map UInt8.toNat
theorem oc_length (s : ByteArray) : (oc s).length = s.size := by simp [oc]
end Go.Proofs.YtpccbmechgkogaaGreatDoor.PureKit
namespace Go.Proofs.YtpccbmechgkogaaGreatDoor.Name
open Go.RowKit Go.Proofs.YtpccbmechgkogaaGreatDoorW.PrintWords Go.Proofs.YtpccbmechgkogaaGreatDoor.PureKit
def plainB (c : Nat) : Bool := decide (32 ≤ c) && decide (c ≤ 126)
def isB (least most : Nat) (p : Nat → Bool) (s : ByteArray) : Bool := decide (least ≤ s.size) && decide (s.size ≤ most) && (oc s).all p
def keyB (s : ByteArray) : Bool := isB 1 60 plainB s
set_option maxHeartbeats 800000 in
theorem plain_any (c : Nat) (w : World) : Calls Tryz.prog 77 #[.int .u8 (c : Int)] w fun e w' => e = .returned (.bool (plainB c)) ∧ w' = w := by
 unfold plainB
 by_cases h1 : 32 ≤ c
 ·have h1' : decide (32 ≤ (c : Int)) = true := decide_eq_true (by omega)
  have h1'' : decide (32 ≤ c) = true := decide_eq_true h1
  go_enter Tryz.func77, Tryz.ntmps77
  go_wp2
  go_ret
  exact ⟨by simp only [h1'', Bool.true_and]; exact congrArg (fun z => Ending.returned (Value.bool z)) (decide_eq_decide.2 (by omega)), rfl⟩
 ·have h1' : decide (32 ≤ (c : Int)) = false := decide_eq_false (by omega)
  have h1'' : decide (32 ≤ c) = false := decide_eq_false h1
  go_enter Tryz.func77, Tryz.ntmps77
  go_wp2
  go_ret
  exact ⟨by simp only [h1'', Bool.false_and]; rfl, rfl⟩
set_option maxRecDepth 100000 in
set_option maxHeartbeats 1600000 in
theorem is_plain (least most : Nat) (s : ByteArray) (w : World) (hm : most ≤ 1000) :
  Calls Tryz.prog 78 #[.agg #[.int .i64 (least : Int), .int .i64 (most : Int), .func (.func 77) #[] #[]], .string s] w fun e w' => e = .returned (.bool (isB least most plainB s)) ∧ Below w.heap.size w w' := by
 unfold isB
 by_cases h1 : s.size < least
 ·have e1 : decide (least ≤ s.size) = false := decide_eq_false (by omega)
  have h1' : decide (s.size < least) = true := decide_eq_true h1
  rw [e1]
  go_enter Tryz.func78, Tryz.ntmps78
  go_wp2
  go_ret
  exact ⟨by simp, (Below.refl _ _).alloc (Nat.le_refl _) _⟩
 ·have e1 : decide (least ≤ s.size) = true := decide_eq_true (by omega)
  have h1' : decide (s.size < least) = false := decide_eq_false h1
  have h1a : least ≤ s.size := by omega
  by_cases h2 : most < s.size
  ·have e2 : decide (s.size ≤ most) = false := decide_eq_false (by omega)
   have h2' : decide (most < s.size) = true := decide_eq_true h2
   rw [e2]
   go_enter Tryz.func78, Tryz.ntmps78
   go_wp2
   go_ret
   exact ⟨by simp, (Below.refl _ _).alloc (Nat.le_refl _) _⟩
  ·have e2 : decide (s.size ≤ most) = true := decide_eq_true (by omega)
   have h2' : decide (most < s.size) = false := decide_eq_false h2
   have h2a : s.size ≤ most := by omega
   rw [e1, e2]
   have hsz : s.size ≤ 1000 := by omega
   clear e1 e2 h1 h2
   go_enter Tryz.func78, Tryz.ntmps78
   go_wp2
   go_loopw [20] (fun i wr => ∃ k : Nat, k ≤ s.size ∧ i = .int .i64 k ∧ Aside0 (∀ j (h : j < (oc s).length), j < k → plainB (oc s)[j] = true) ∧ Aside0 (∃ n, wr = (w.alloc (.cells #[.int .i64 (least : Int), .int .i64 (most : Int), .func (.func 77) #[] #[]] 135)).drewN n)) (fun i _ => s.size - (intOf i).toNat)
   case atStart => exact ⟨0, by omega, rfl, ⟨fun j _ h => absurd h (Nat.not_lt_zero _)⟩, ⟨0, rfl⟩⟩
   case round =>
    obtain ⟨k, hk, rfl, HA, HD⟩ := hrel
    have hf0 : wr.cell? ⟨w.heap.size, 2, none⟩ = some (.func (.func 77) #[] #[]) := by
     obtain ⟨n, rfl⟩ := HD.out
     show (w.alloc _).cell? _ = _
     simp
    by_cases hlt : k < s.size
    ·have hc : s[k].toNat = (oc s)[k]'(by rw [oc_length]; exact hlt) := by simp [oc]; rfl
     have HC := Aside0.mk hc
     clear hc
     have C := fun W => plain_any s[k].toNat W
     generalize hq : plainB s[k].toNat = q at C
     have HQ := Aside0.mk hq
     clear hq
     cases q with
     | true =>
      go_wp2_with fail
      go_quiet ((exact Calls.quiet_of_same (C _)))
      go_wp2
      refine ⟨⟨k + 1, by omega, by go_num, ⟨fun j h hj => ?_⟩, ⟨?_⟩⟩, by simp [intOf]; omega⟩
      ·by_cases e : j = k
       ·subst e
        rw [← HC.out]
        exact HQ.out
       ·exact HA.out j h (by omega)
      ·obtain ⟨n, rfl⟩ := HD.out
       exact ⟨_, World.drewN_drewN ..⟩
     | false =>
      go_wp2_with fail
      go_quiet ((exact Calls.quiet_of_same (C _)))
      go_wp2
      go_ret
      have hall : (oc s).all plainB = false := List.all_eq_false.2 ⟨_, List.getElem_mem (by rw [oc_length]; exact hlt), by rw [← HC.out, HQ.out]; decide⟩
      refine ⟨by rw [hall]; rfl, ?_⟩
      obtain ⟨n, rfl⟩ := HD.out
      exact pw_below_drewN (pw_below_drewN ((Below.refl _ _).alloc (Nat.le_refl _) _) n) _
    ·have hk2 : k = s.size := by omega
     subst hk2
     go_wp2
     go_ret
     have hall : (oc s).all plainB = true := List.all_eq_true.2 fun x hx => by
      obtain ⟨j, hj, rfl⟩ := List.getElem_of_mem hx
      exact HA.out j hj (by rw [← oc_length]; exact hj)
     refine ⟨by rw [hall]; rfl, ?_⟩
     obtain ⟨n, rfl⟩ := HD.out
     exact pw_below_drewN ((Below.refl _ _).alloc (Nat.le_refl _) _) n
theorem key_any (s : ByteArray) (w : World) : Calls Tryz.prog 76 #[.string s] w fun e w' => e = .returned (.bool (keyB s)) ∧ Below w.heap.size w w' := by
 have C := is_plain 1 60 s w (by decide)
 have hu := Tryz.underlying135
 go_enter Tryz.func76, Tryz.ntmps76
 go_wp2_with fail
 refine C.mono ?_
 rintro e w1 ⟨rfl, hb⟩
 have HB := Aside0.mk hb
 clear hb C
 go_wp2
 go_ret
 exact ⟨rfl, HB.out⟩
end Go.Proofs.YtpccbmechgkogaaGreatDoor.Name
namespace Go.Proofs.YtpccbmechgkogaaGreatDoor.IdxSpec
open Go.RowKit Go.Proofs.YtpccbmechgkogaaGreatDoor.P Go.Proofs.YtpccbmechgkogaaGreatDoorW.PrintWords Go.Proofs.YtpccbmechgkogaaGreatDoor.PureKit Go.Proofs.YtpccbmechgkogaaGreatDoor.Cmp
open Go.Proofs.YtpccbmechgkogaaGreatDoor.ChSpec (mayB chainB)
abbrev V := S63
abbrev E := S79
def lt (a b : ByteArray) : Bool := Op.bytesLess a.toList b.toList
theorem lt_irrefl (a : ByteArray) : lt a a = false := less_irrefl _
theorem lt_trans {a b c : ByteArray} (h1 : lt a b = true) (h2 : lt b c = true) : lt a c = true := less_trans _ _ _ h1 h2
theorem lt_asymm {a b : ByteArray} (h : lt a b = true) : lt b a = false := by
 cases h' : lt b a with
 | false => rfl
 | true => have := lt_trans h h'; rw [lt_irrefl] at this; cases this
theorem lt_tri {a b : ByteArray} (h1 : lt a b = false) (h2 : lt b a = false) : a.toList = b.toList := less_tri _ _ h1 h2
theorem lt_congr {a b c d : ByteArray} (h1 : a.toList = b.toList) (h2 : c.toList = d.toList) : lt a c = lt b d := by unfold lt; rw [h1, h2]
def follows (prev : Option E) (x : E) : Bool := match prev with
 | some u => lt u.f0 x.f0
 | none => true
def rising (prev : Option E) : List E → Bool
 | [] => true
 | x :: r => Name.keyB x.f0 && follows prev x && !x.f1.isEmpty && chainB x.f1 && rising (some x) r
theorem rising_cons (prev : Option E) (x : E) (r : List E) : rising prev (x :: r) = (Name.keyB x.f0 && follows prev x && !x.f1.isEmpty && chainB x.f1 && rising (some x) r) := rfl
def indexB (l : List E) : Bool := decide (l.length ≤ 60) && rising none l
def at_ (l : List E) (key : ByteArray) : Nat := (l.filter fun x => lt x.f0 key).length
def behind (l : List E) (key : ByteArray) : Nat := if IdxE.idx (IdxE.has key) l ≥ 0 then at_ l key + 1 else at_ l key
def new (key : ByteArray) (c : List V) : List E := if c = [] then [] else [⟨key, c⟩]
def putL (l : List E) (key : ByteArray) (c : List V) : List E := l.take (at_ l key) ++ new key c ++ l.drop (behind l key)
def put (l : List E) (key : ByteArray) (c : List V) : List E × Int :=
 if indexB l = true ∧ Name.keyB key = true ∧ chainB c = true then (if (putL l key c).length > 60 then ([], 6) else (putL l key c, 0)) else ([], 1)
theorem at_le (l : List E) (key : ByteArray) : at_ l key ≤ l.length := List.length_filter_le _ _
theorem idx_nonneg (p : E → Bool) (l : List E) (h : IdxE.idx p l ≥ 0) : ∃ x ∈ l, p x = true := by
 unfold IdxE.idx at h
 cases hf : l.findIdx? p with
 | none => rw [hf] at h; simp at h
 | some i =>
  obtain ⟨hi, hp, _⟩ := List.findIdx?_eq_some_iff_getElem.1 hf
  exact ⟨l[i], List.getElem_mem hi, hp⟩
theorem idx_neg (p : E → Bool) (l : List E) (h : ¬ IdxE.idx p l ≥ 0) : ∀ x ∈ l, p x = false := by
 unfold IdxE.idx at h
 cases hf : l.findIdx? p with
 | none => rw [List.findIdx?_eq_none_iff] at hf; exact hf
 | some i => rw [hf] at h; simp at h
theorem behind_le (l : List E) (key : ByteArray) : behind l key ≤ l.length := by
 unfold behind
 by_cases h : IdxE.idx (IdxE.has key) l ≥ 0
 ·rw [if_pos h]
  obtain ⟨x, hx, hp⟩ := idx_nonneg _ _ h
  have hn : lt x.f0 key = false := by
   unfold IdxE.has at hp
   rw [lt_congr (a := x.f0) (b := key) (c := key) (d := key) (by simpa using hp) rfl]
   exact lt_irrefl _
  unfold at_
  have := (List.length_filter_lt_length_iff_exists (p := fun x => lt x.f0 key) (l := l)).2 ⟨x, hx, by simp [hn]⟩
  omega
 ·rw [if_neg h]
  exact at_le _ _
theorem at_le_behind (l : List E) (key : ByteArray) : at_ l key ≤ behind l key := by
 unfold behind
 split <;> omega
end Go.Proofs.YtpccbmechgkogaaGreatDoor.IdxSpec
namespace Go.Proofs.YtpccbmechgkogaaGreatDoor.NameW
open Go.RowKit Go.Proofs.YtpccbmechgkogaaGreatDoorW.PrintWords Go.Proofs.YtpccbmechgkogaaGreatDoor.PureKit Go.Proofs.YtpccbmechgkogaaGreatDoor.Name
def wordB (c : Nat) : Bool := (decide (97 ≤ c) && decide (c ≤ 122)) || (decide (48 ≤ c) && decide (c ≤ 57)) || decide (c = 45)
def prefixB (s : ByteArray) : Bool := isB 0 60 plainB s
def delimB (s : ByteArray) : Bool := isB 0 1 plainB s
def bucketB (s : ByteArray) : Bool := isB 3 20 wordB s && !decide ((oc s).head? = some 45) && !decide ((oc s).getLast? = some 45)
set_option maxHeartbeats 1600000 in
theorem word_any (c : Nat) (w : World) : Calls Tryz.prog 83 #[.int .u8 (c : Int)] w fun e w' => e = .returned (.bool (wordB c)) ∧ w' = w := by
 unfold wordB
 by_cases h1 : 97 ≤ c <;> by_cases h2 : c ≤ 122 <;> by_cases h3 : 48 ≤ c <;> by_cases h4 : c ≤ 57 <;> by_cases h5 : c = 45
 all_goals first | (exfalso; omega) | skip
 all_goals
  have e1 : decide (97 ≤ (c : Int)) = decide (97 ≤ c) := decide_eq_decide.2 (by omega)
  have e2 : decide ((c : Int) ≤ 122) = decide (c ≤ 122) := decide_eq_decide.2 (by omega)
  have e3 : decide (48 ≤ (c : Int)) = decide (48 ≤ c) := decide_eq_decide.2 (by omega)
  have e4 : decide ((c : Int) ≤ 57) = decide (c ≤ 57) := decide_eq_decide.2 (by omega)
  have e5 : ((c : Int) == 45) = decide (c = 45) := by rw [Bool.eq_iff_iff]; simp; omega
  simp only [h1, h2, h3, h4, h5, decide_true, decide_false] at e1 e2 e3 e4 e5 ⊢
  go_enter Tryz.func83, Tryz.ntmps83
  go_wp2
  go_ret
  exact ⟨rfl, rfl⟩
set_option maxRecDepth 100000 in
set_option maxHeartbeats 1600000 in
theorem is_word (least most : Nat) (s : ByteArray) (w : World) (hm : most ≤ 1000) :
  Calls Tryz.prog 78 #[.agg #[.int .i64 (least : Int), .int .i64 (most : Int), .func (.func 83) #[] #[]], .string s] w fun e w' => e = .returned (.bool (isB least most wordB s)) ∧ Below w.heap.size w w' := by
 unfold isB
 by_cases h1 : s.size < least
 ·have e1 : decide (least ≤ s.size) = false := decide_eq_false (by omega)
  have h1' : decide (s.size < least) = true := decide_eq_true h1
  rw [e1]
  go_enter Tryz.func78, Tryz.ntmps78
  go_wp2
  go_ret
  exact ⟨by simp, (Below.refl _ _).alloc (Nat.le_refl _) _⟩
 ·have e1 : decide (least ≤ s.size) = true := decide_eq_true (by omega)
  have h1' : decide (s.size < least) = false := decide_eq_false h1
  have h1a : least ≤ s.size := by omega
  by_cases h2 : most < s.size
  ·have e2 : decide (s.size ≤ most) = false := decide_eq_false (by omega)
   have h2' : decide (most < s.size) = true := decide_eq_true h2
   rw [e2]
   go_enter Tryz.func78, Tryz.ntmps78
   go_wp2
   go_ret
   exact ⟨by simp, (Below.refl _ _).alloc (Nat.le_refl _) _⟩
  ·have e2 : decide (s.size ≤ most) = true := decide_eq_true (by omega)
   have h2' : decide (most < s.size) = false := decide_eq_false h2
   have h2a : s.size ≤ most := by omega
   rw [e1, e2]
   have hsz : s.size ≤ 1000 := by omega
   clear e1 e2 h1 h2
   go_enter Tryz.func78, Tryz.ntmps78
   go_wp2
   go_loopw [20] (fun i wr => ∃ k : Nat, k ≤ s.size ∧ i = .int .i64 k ∧ Aside0 (∀ j (h : j < (oc s).length), j < k → wordB (oc s)[j] = true) ∧ Aside0 (∃ n, wr = (w.alloc (.cells #[.int .i64 (least : Int), .int .i64 (most : Int), .func (.func 83) #[] #[]] 135)).drewN n)) (fun i _ => s.size - (intOf i).toNat)
   case atStart => exact ⟨0, by omega, rfl, ⟨fun j _ h => absurd h (Nat.not_lt_zero _)⟩, ⟨0, rfl⟩⟩
   case round =>
    obtain ⟨k, hk, rfl, HA, HD⟩ := hrel
    have hf0 : wr.cell? ⟨w.heap.size, 2, none⟩ = some (.func (.func 83) #[] #[]) := by
     obtain ⟨n, rfl⟩ := HD.out
     show (w.alloc _).cell? _ = _
     simp
    by_cases hlt : k < s.size
    ·have hc : s[k].toNat = (oc s)[k]'(by rw [oc_length]; exact hlt) := by simp [oc]; rfl
     have HC := Aside0.mk hc
     clear hc
     have C := fun W => word_any s[k].toNat W
     generalize hq : wordB s[k].toNat = q at C
     have HQ := Aside0.mk hq
     clear hq
     cases q with
     | true =>
      go_wp2_with fail
      go_quiet ((exact Calls.quiet_of_same (C _)))
      go_wp2
      refine ⟨⟨k + 1, by omega, by go_num, ⟨fun j h hj => ?_⟩, ⟨?_⟩⟩, by simp [intOf]; omega⟩
      ·by_cases e : j = k
       ·subst e
        rw [← HC.out]
        exact HQ.out
       ·exact HA.out j h (by omega)
      ·obtain ⟨n, rfl⟩ := HD.out
       exact ⟨_, World.drewN_drewN ..⟩
     | false =>
      go_wp2_with fail
      go_quiet ((exact Calls.quiet_of_same (C _)))
      go_wp2
      go_ret
      have hall : (oc s).all wordB = false := List.all_eq_false.2 ⟨_, List.getElem_mem (by rw [oc_length]; exact hlt), by rw [← HC.out, HQ.out]; decide⟩
      refine ⟨by rw [hall]; rfl, ?_⟩
      obtain ⟨n, rfl⟩ := HD.out
      exact pw_below_drewN (pw_below_drewN ((Below.refl _ _).alloc (Nat.le_refl _) _) n) _
    ·have hk2 : k = s.size := by omega
     subst hk2
     go_wp2
     go_ret
     have hall : (oc s).all wordB = true := List.all_eq_true.2 fun x hx => by
      obtain ⟨j, hj, rfl⟩ := List.getElem_of_mem hx
      exact HA.out j hj (by rw [← oc_length]; exact hj)
     refine ⟨by rw [hall]; rfl, ?_⟩
     obtain ⟨n, rfl⟩ := HD.out
     exact pw_below_drewN ((Below.refl _ _).alloc (Nat.le_refl _) _) n
theorem prefix_any (s : ByteArray) (w : World) : Calls Tryz.prog 75 #[.string s] w fun e w' => e = .returned (.bool (prefixB s)) ∧ Below w.heap.size w w' := by
 have C := is_plain 0 60 s w (by decide)
 have hu := Tryz.underlying135
 go_enter Tryz.func75, Tryz.ntmps75
 go_wp2_with fail
 refine C.mono ?_
 rintro e w1 ⟨rfl, hb⟩
 have HB := Aside0.mk hb
 clear hb C
 go_wp2
 go_ret
 exact ⟨rfl, HB.out⟩
theorem delim_any (s : ByteArray) (w : World) : Calls Tryz.prog 35 #[.string s] w fun e w' => e = .returned (.bool (delimB s)) ∧ Below w.heap.size w w' := by
 have C := is_plain 0 1 s w (by decide)
 have hu := Tryz.underlying135
 go_enter Tryz.func35, Tryz.ntmps35
 go_wp2_with fail
 refine C.mono ?_
 rintro e w1 ⟨rfl, hb⟩
 have HB := Aside0.mk hb
 clear hb C
 go_wp2
 go_ret
 exact ⟨rfl, HB.out⟩
set_option maxRecDepth 100000 in
set_option maxHeartbeats 1600000 in
theorem bucket_any (s : ByteArray) (w : World) : Calls Tryz.prog 41 #[.string s] w fun e w' => e = .returned (.bool (bucketB s)) ∧ Below w.heap.size w w' := by
 have C := is_word 3 20 s w (by decide)
 have hu := Tryz.underlying135
 unfold bucketB
 cases hq : isB 3 20 wordB s with
 | false =>
  rw [hq] at C
  clear hq
  go_enter Tryz.func41, Tryz.ntmps41
  go_wp2_with fail
  refine C.mono ?_
  rintro e w1 ⟨rfl, hb⟩
  have HB := Aside0.mk hb
  clear hb C
  go_wp2
  go_ret
  exact ⟨rfl, HB.out⟩
 | true =>
  rw [hq] at C
  have h3 : 3 ≤ s.size ∧ s.size ≤ 20 := by
   unfold isB at hq
   simp only [Bool.and_eq_true, decide_eq_true_eq] at hq
   exact hq.1
  clear hq
  obtain ⟨h3, h20⟩ := h3
  have hw : IntKind.i64.wrap ((s.size : Int) - 1) = ((s.size - 1 : Nat) : Int) := by rw [IntWalk.i64_in _ (by omega)]; omega
  have h0 : 0 < s.size := by omega
  have h1 : s.size - 1 < s.size := by omega
  have HH := Aside0.mk (show (oc s).head? = some (s[0]'h0).toNat by
   rw [List.head?_eq_getElem?, List.getElem?_eq_getElem (by rw [oc_length]; exact h0)]
   simp [oc]
   rfl)
  have HL := Aside0.mk (show (oc s).getLast? = some (s[s.size - 1]'h1).toNat by
   rw [List.getLast?_eq_getElem?, List.getElem?_eq_getElem (by rw [oc_length]; omega)]
   simp [oc]
   rfl)
  go_enter Tryz.func41, Tryz.ntmps41
  go_wp2_with fail
  refine C.mono ?_
  rintro e w1 ⟨rfl, hb⟩
  have HB := Aside0.mk hb
  clear hb C
  go_wp2_with fail
  all_goals
   rename_i hx
   go_ret
   refine ⟨congrArg (fun z => Ending.returned (Value.bool z)) ?_, HB.out⟩
   rw [HH.out, HL.out, Bool.eq_iff_iff]
   simp
   omega
end Go.Proofs.YtpccbmechgkogaaGreatDoor.NameW
namespace Go.Proofs.YtpccbmechgkogaaGreatDoor.BkSpec
open Go.RowKit Go.Proofs.YtpccbmechgkogaaGreatDoor.P Go.Proofs.YtpccbmechgkogaaGreatDoorW.PrintWords Go.Proofs.YtpccbmechgkogaaGreatDoor.PureKit
abbrev V := S63
abbrev E := S79
abbrev P := S119
abbrev U := S131
abbrev B := S40
def partB (p : P) : Bool := decide (1 ≤ p.f0) && decide (p.f0 ≤ 1000) && decide ((p.f1.size : Int) ≤ 2000)
def riseBy {α : Type} (f : α → Int) : List α → Bool
 | a :: b :: r => decide (f a < f b) && riseBy f (b :: r)
 | _ => true
def partsRise (l : List P) : Bool := riseBy (fun p => p.f0) l
def upB (u : U) : Bool := decide (1 ≤ u.f0) && decide (u.f0 ≤ 281474976710655) && Name.keyB u.f1 && decide (u.f2.length ≤ 30) && u.f2.all partB && partsRise u.f2
def upsRise (l : List U) : Bool := riseBy (fun u => u.f0) l
def partsB (l : List U) : Bool := decide (l.length ≤ 10) && l.all upB && upsRise l
def octV (l : List V) : Int := (l.map fun v => (v.f1.size : Int)).sum
def octI (l : List E) : Int := (l.map fun x => octV x.f1).sum
def octP (l : List P) : Int := (l.map fun p => (p.f1.size : Int)).sum
def octU (l : List U) : Int := (l.map fun u => octP u.f2).sum
def far (b : B) (v : V) : Bool := decide (v.f0 > b.f4) || (decide (b.f1 = 0) && !(v.f0 == 0))
def farU (b : B) (u : U) : Bool := decide (u.f0 > b.f4)
def bucketB (b : B) : Bool := NameW.bucketB b.f0 && decide (0 ≤ b.f1) && decide (b.f1 ≤ 2) && decide (b.f4 ≤ 281474976710655) && IdxSpec.indexB b.f2 && partsB b.f3 && decide (octI b.f2 + octU b.f3 ≤ 20000)
 && b.f2.all (fun x => !x.f1.any (far b)) && !b.f3.any (farU b)
def namesRise : List B → Bool
 | a :: b :: r => IdxSpec.lt a.f0 b.f0 && namesRise (b :: r)
 | _ => true
def depotB (now : Int) (l : List B) : Bool := decide (0 ≤ now) && decide (now ≤ 1099511627775) && decide (l.length ≤ 6) && l.all bucketB && l.all (fun b => !DpLate.lateB now b) && namesRise l
theorem rd_here {α : Type} (z : α) (l : List α) (k : Nat) (h : k < l.length) : l.getD ((k : Int).toNat) z = l[k] := by rw [Int.toNat_natCast, List.getD_eq_getElem?_getD, List.getElem?_eq_getElem h]; rfl
def Next {α : Type} (R : α → α → Prop) (l : List α) : Prop := ∀ (i j : Nat) (hi : i < l.length) (hj : j < l.length), j = i + 1 → R l[i] l[j]
theorem next_pair {α : Type} {R : α → α → Prop} {l : List α} (h : l.Pairwise R) : Next R l := fun i j hi hj e => List.pairwise_iff_getElem.1 h i j hi hj (by omega)
theorem rise_get {α : Type} (f : α → Int) : ∀ (l : List α) (m : Nat) (h : m + 1 < l.length), riseBy f l = true → f (l[m]'(by omega)) < f l[m + 1]
 | [], m, h, _ => by simp at h
 | [a], m, h, _ => by simp at h
 | a :: b :: r, 0, h, hr => by
  simp only [riseBy, Bool.and_eq_true, decide_eq_true_eq] at hr
  exact hr.1
 | a :: b :: r, m + 1, h, hr => by
  simp only [riseBy, Bool.and_eq_true, decide_eq_true_eq] at hr
  exact rise_get f (b :: r) m (by simpa using h) hr.2
theorem next_rise {α : Type} (f : α → Int) {l : List α} (h : riseBy f l = true) : Next (fun a b => f a < f b) l := fun i j hi hj e => by
 subst e
 exact rise_get f l i hj h
end Go.Proofs.YtpccbmechgkogaaGreatDoor.BkSpec
namespace Go.Proofs.YtpccbmechgkogaaGreatDoor.BkFar
open Go.RowKit Go.Proofs.YtpccbmechgkogaaGreatDoor.P Go.Proofs.YtpccbmechgkogaaGreatDoorW.PrintWords Go.Proofs.YtpccbmechgkogaaGreatDoor.PureKit Go.Proofs.YtpccbmechgkogaaGreatDoor.BkSpec
set_option maxRecDepth 100000 in
set_option maxHeartbeats 1600000 in
theorem farC (bk : B) (x : V) (b : Nat) (w : World) (hb : b < w.heap.size) (h1 : w.cell? ⟨b, 1, none⟩ = some (.int .i64 bk.f1)) (h4 : w.cell? ⟨b, 4, none⟩ = some (.int .u64 bk.f4)) :
  Calls Tryz.prog 117 #[.agg #[.int .u64 x.f0, .string x.f1, .bool x.f2, .int .i64 x.f3], .pointer (some ⟨b, 0, none⟩)] w fun e w' => e = .returned (.bool (far bk x)) ∧ Below w.heap.size w w' := by
 have hu := Tryz.underlying63
 have hu2 := Tryz.underlying40
 have k1 : ∀ o, (w.alloc o).cell? ⟨b, 1, none⟩ = some (.int .i64 bk.f1) := fun o => by rw [World.cell?_alloc_past _ _ _ hb]; exact h1
 have k4 : ∀ o, (w.alloc o).cell? ⟨b, 4, none⟩ = some (.int .u64 bk.f4) := fun o => by rw [World.cell?_alloc_past _ _ _ hb]; exact h4
 by_cases c1 : x.f0 > bk.f4
 ·have hf : far bk x = true := by simp [far, c1]
  rw [hf]
  have d1 : decide (x.f0 > bk.f4) = true := decide_eq_true c1
  clear hf c1
  go_enter Tryz.func117, Tryz.ntmps117
  go_wp2
  go_ret
  exact ⟨by first | rfl | simp, (Below.refl _ _).alloc (Nat.le_refl _) _⟩
 ·have d1 : decide (x.f0 > bk.f4) = false := decide_eq_false c1
  by_cases c2 : bk.f1 = 0
  ·have hf : far bk x = !(x.f0 == 0) := by simp [far, c1, c2]
   rw [hf]
   have d2 : (bk.f1 == 0) = true := beq_iff_eq.mpr c2
   clear hf c1 c2
   go_enter Tryz.func117, Tryz.ntmps117
   go_wp2
   go_ret
   exact ⟨by first | rfl | simp, (Below.refl _ _).alloc (Nat.le_refl _) _⟩
  ·have hf : far bk x = false := by simp [far, c1, c2]
   rw [hf]
   have d2 : (bk.f1 == 0) = false := beq_eq_false_iff_ne.mpr c2
   clear hf c1 c2
   go_enter Tryz.func117, Tryz.ntmps117
   go_wp2
   go_ret
   exact ⟨by first | rfl | simp, (Below.refl _ _).alloc (Nat.le_refl _) _⟩
set_option maxRecDepth 100000 in
set_option maxHeartbeats 1600000 in
theorem farUC (bk : B) (x : U) (A2 : Option Addr) (c2 : Nat) (b : Nat) (w : World) (hb : b < w.heap.size) (h4 : w.cell? ⟨b, 4, none⟩ = some (.int .u64 bk.f4)) :
  Calls Tryz.prog 120 #[.agg #[.int .u64 x.f0, .string x.f1, .slice A2 x.f2.length c2], .pointer (some ⟨b, 0, none⟩)] w fun e w' => e = .returned (.bool (farU bk x)) ∧ Below w.heap.size w w' := by
 unfold farU
 have hu := Tryz.underlying131
 have hu2 := Tryz.underlying40
 have k4 : ∀ o, (w.alloc o).cell? ⟨b, 4, none⟩ = some (.int .u64 bk.f4) := fun o => by rw [World.cell?_alloc_past _ _ _ hb]; exact h4
 go_enter Tryz.func120, Tryz.ntmps120
 go_wp2
 go_ret
 exact ⟨rfl, (Below.refl _ _).alloc (Nat.le_refl _) _⟩
end Go.Proofs.YtpccbmechgkogaaGreatDoor.BkFar
