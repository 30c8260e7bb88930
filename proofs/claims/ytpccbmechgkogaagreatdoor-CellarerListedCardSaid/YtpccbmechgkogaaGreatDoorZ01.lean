/-
  Lemmas: ChSpec, Cmp, IdxG, IxB, IxE, IxV, DpLate.
-/
import Derived.Test.YtpccbmechgkogaaGreatDoorProg
import Derived.Laws.Strings
import Derived.LoopTactic
import Derived.Outline
import Derived.Test.YtpccbmechgkogaaGreatDoorV0
import Derived.Test.YtpccbmechgkogaaGreatDoorZ00
set_option linter.unusedVariables false
set_option linter.unusedSimpArgs false
namespace Go.Proofs.YtpccbmechgkogaaGreatDoor.ChSpec
open Go.RowKit Go.Proofs.YtpccbmechgkogaaGreatDoor.P Go.Proofs.YtpccbmechgkogaaGreatDoorW.PrintWords
abbrev V := S63
def mayB (v : V) : Bool := decide (v.f0 ≤ 281474976710655) && decide ((v.f1.size : Int) ≤ 2000) && (!v.f2 || decide (v.f1.toList = [])) && decide (0 ≤ v.f3) && decide (v.f3 ≤ 1099511627775)
def later (prev : Option V) (v : V) : Bool := match prev with
 | some u => decide (u.f3 < v.f3)
 | none => false
def good (last : Int) (null : Bool) (prev : Option V) : List V → Bool
 | [] => true
 | v :: r => if later prev v = true then false
  else if v.f0 = 0 then (if null = true then false else if v.f0 ≥ last then false else good last true (some v) r)
  else if v.f0 ≥ last then false else good v.f0 null (some v) r
theorem good_cons (last : Int) (null : Bool) (prev : Option V) (v : V) (r : List V) : good last null prev (v :: r) = (if later prev v = true then false
  else if v.f0 = 0 then (if null = true then false else if v.f0 ≥ last then false else good last true (some v) r)
  else if v.f0 ≥ last then false else good v.f0 null (some v) r) := rfl
def chainB (l : List V) : Bool := decide (l.length ≤ 20) && l.all mayB && good 281474976710656 false none l
def aheadF (l : List V) (x : V) : List V × Int := if x.f0 = 0 then ([], 1) else if l.any (fun y => decide (y.f0 ≥ x.f0)) = true then ([], 9) else (x :: l, 0)
def withoutL (l : List V) (id : Int) : List V := l.filter fun x => !(x.f0 == id)
def overF (l : List V) (x : V) : List V × Int := ({ x with f0 := 0 } :: withoutL l 0, 0)
def elder (l : List V) (x : V) : Bool := match l with
 | [] => false
 | y :: _ => decide (x.f3 < y.f3)
def layF (l : List V) (state : Int) (x : V) : List V × Int := if state = 1 then aheadF l x else overF l x
def putF (l : List V) (state : Int) (x : V) : List V × Int :=
 if chainB l = true ∧ (state = 0 ∨ state = 1 ∨ state = 2) ∧ mayB x = true ∧ elder l x = false then
  (if (layF l state x).2 ≠ 0 then ([], (layF l state x).2) else if (layF l state x).1.length > 20 then ([], 6) else ((layF l state x).1, 0))
 else ([], 1)
def dropF (l : List V) (id : Int) : List V × Int := if chainB l = true then (if l.any (fun x => x.f0 == id) = true then (withoutL l id, 0) else ([], 4)) else ([], 1)
def delF (l : List V) (state id t : Int) : List V × Int := if state = 0 then dropF l 0 else putF l state ⟨if state = 2 then 0 else id, ⟨#[]⟩, true, t⟩
def zV : V := ⟨0, ⟨#[]⟩, false, 0⟩
def atF (l : List V) (o : Option V) : V × Int := if chainB l = true then (match o with
 | none => (zV, 4)
 | some v => (v, if v.f2 = true then 13 else 0)) else (zV, 1)
def getF (l : List V) : V × Int := atF l l.head?
def findF (l : List V) (id : Int) : V × Int := atF l (l.find? fun x => x.f0 == id)
def tup (r : V × Int) : Int × ByteArray × Bool × Int × Int := (r.1.f0, r.1.f1, r.1.f2, r.1.f3, r.2)
def clash (v u : V) : Bool := (decide (v.f0 = 0) && decide (u.f0 = 0)) || (!decide (v.f0 = 0) && !decide (u.f0 = 0) && decide (u.f0 ≤ v.f0))
def refGood (pre : List V) : List V → Bool
 | [] => true
 | v :: r => mayB v && !later pre.getLast? v && !(pre.any (clash v)) && refGood (pre ++ [v]) r
def refChain (l : List V) : Bool := refGood [] l && decide (l.length ≤ 20)
theorem refGood_may : ∀ (l pre : List V), refGood pre l = true → l.all mayB = true
 | [], _, _ => rfl
 | v :: r, pre, h => by
  simp only [refGood, Bool.and_eq_true] at h
  simp [h.1.1.1, refGood_may r _ h.2]
structure Inv (pre : List V) (last : Int) (null : Bool) : Prop where
 pos : 0 < last
 null : null = pre.any (fun u => decide (u.f0 = 0))
 least : ∀ u ∈ pre, u.f0 ≠ 0 → last ≤ u.f0
 is : last = 281474976710656 ∨ ∃ u ∈ pre, u.f0 = last
theorem good_eq : ∀ (l pre : List V) (last : Int) (null : Bool), Inv pre last null → (∀ v ∈ l, 0 ≤ v.f0) → l.all mayB = true → good last null pre.getLast? l = refGood pre l
 | [], _, _, _, _, _, _ => rfl
 | v :: r, pre, last, null, hI, hw, hm => by
  have hm' : mayB v = true ∧ r.all mayB = true := by simpa using hm
  have hv : v.f0 ≤ 281474976710655 := by have := hm'.1; simp [mayB] at this; exact this.1.1.1.1
  have h0 := hw v (by simp)
  have hlast : (pre ++ [v]).getLast? = some v := by simp
  rw [good_cons, refGood, hm'.1]
  cases hb : later pre.getLast? v with
  | true => simp
  | false =>
   rw [if_neg (by simp)]
   simp only [Bool.not_false, Bool.and_self, Bool.true_and]
   by_cases hz : v.f0 = 0
   ·rw [if_pos hz]
    have hc : pre.any (clash v) = null := by
     rw [hI.null]
     congr 1
     funext u
     simp [clash, hz]
    rw [hc]
    cases null with
    | true => simp
    | false =>
     rw [if_neg (by simp), if_neg (by have := hI.pos; omega)]
     simp only [Bool.not_false, Bool.true_and]
     rw [← hlast]
     exact good_eq r (pre ++ [v]) last true ⟨hI.pos, by simp [hz], fun u hu hn => by
      rcases List.mem_append.1 hu with hu | hu
      ·exact hI.least u hu hn
      ·simp at hu; subst hu; exact absurd hz hn, hI.is.imp_right (fun ⟨u, hu, e⟩ => ⟨u, by simp [hu], e⟩)⟩ (fun u hu => hw u (by simp [hu])) hm'.2
   ·rw [if_neg hz]
    by_cases hge : v.f0 ≥ last
    ·rw [if_pos hge]
     have hc : pre.any (clash v) = true := by
      rcases hI.is with e | ⟨u, hu, e⟩
      ·omega
      ·have := hI.pos
       exact List.any_eq_true.2 ⟨u, hu, by simp [clash, hz, show u.f0 ≠ 0 by omega, show u.f0 ≤ v.f0 by omega]⟩
     simp [hc]
    ·rw [if_neg hge]
     have hc : pre.any (clash v) = false := by
      rw [List.any_eq_false]
      intro u hu
      by_cases hu0 : u.f0 = 0
      ·simp [clash, hz, hu0]
      ·have := hI.least u hu hu0
       simp [clash, hz, hu0, show ¬ u.f0 ≤ v.f0 by omega]
     simp only [hc, Bool.not_false, Bool.true_and]
     rw [← hlast]
     exact good_eq r (pre ++ [v]) v.f0 null ⟨by omega, by simp [hz, hI.null], fun u hu hn => by
      rcases List.mem_append.1 hu with hu | hu
      ·have := hI.least u hu hn; omega
      ·simp at hu; subst hu; omega, .inr ⟨v, by simp, rfl⟩⟩ (fun u hu => hw u (by simp [hu])) hm'.2
theorem chain_eq (l : List V) (hw : ∀ v ∈ l, 0 ≤ v.f0) : refChain l = chainB l := by
 unfold refChain chainB
 cases hm : l.all mayB with
 | false =>
  have : refGood [] l = false := by
   cases h : refGood [] l with
   | false => rfl
   | true => rw [refGood_may l [] h] at hm; cases hm
  simp [this]
 | true =>
  rw [← good_eq l [] 281474976710656 false ⟨by omega, rfl, fun u hu => by simp at hu, .inl rfl⟩ hw hm]
  simp [Bool.and_comm]
theorem snoc_cases {α : Type} (l : List α) : l = [] ∨ ∃ l' u, l = l' ++ [u] := by
 rcases List.eq_nil_or_concat l with h | ⟨l', u, h⟩
 ·exact .inl h
 ·exact .inr ⟨l', u, by simpa using h⟩
theorem rd50 {l pre rest : List V} {v : V} (h : l = pre ++ v :: rest) : rd_T63 l (pre.length : Int) = v := by
 subst h
 simp [rd_T63]
end Go.Proofs.YtpccbmechgkogaaGreatDoor.ChSpec
namespace Go.Proofs.YtpccbmechgkogaaGreatDoor.Cmp
theorem less_irrefl : ∀ x : List UInt8, Op.bytesLess x x = false
 | [] => by simp [Op.bytesLess]
 | a :: x => by simp [Op.bytesLess, less_irrefl x]
theorem less_trans : ∀ x y z : List UInt8, Op.bytesLess x y = true → Op.bytesLess y z = true → Op.bytesLess x z = true
 | _, [], _ => by intro h; cases ‹List UInt8› <;> simp [Op.bytesLess] at h
 | _, _ :: _, [] => by intro _ h; simp [Op.bytesLess] at h
 | [], _ :: _, _ :: _ => by intro _ _; simp [Op.bytesLess]
 | a :: x, b :: y, c :: z => by
  intro h1 h2
  have ih := less_trans x y z
  simp only [Op.bytesLess, Bool.or_eq_true, Bool.and_eq_true, decide_eq_true_eq, beq_iff_eq] at h1 h2 ⊢
  rcases h1 with h1 | ⟨rfl, h1⟩ <;> rcases h2 with h2 | ⟨rfl, h2⟩
  ·exact .inl (UInt8.lt_trans h1 h2)
  ·exact .inl h1
  ·exact .inl h2
  ·exact .inr ⟨rfl, ih h1 h2⟩
theorem less_tri : ∀ x y : List UInt8, Op.bytesLess x y = false → Op.bytesLess y x = false → x = y
 | [], [] => fun _ _ => rfl
 | [], _ :: _ => by intro h; simp [Op.bytesLess] at h
 | _ :: _, [] => by intro _ h; simp [Op.bytesLess] at h
 | a :: x, b :: y => by
  intro h1 h2
  have ih := less_tri x y
  simp only [Op.bytesLess, Bool.or_eq_false_iff, decide_eq_false_iff_not, Bool.and_eq_false_iff, beq_eq_false_iff_ne] at h1 h2
  have e : a = b := UInt8.le_antisymm (UInt8.not_lt.1 h2.1) (UInt8.not_lt.1 h1.1)
  subst e
  rcases h1.2 with h | h
  ·exact absurd rfl h
  ·rcases h2.2 with h' | h'
   ·exact absurd rfl h'
   ·rw [ih h h']
theorem less_other (x y : List UInt8) : (!(Op.bytesLess x y || x == y)) = Op.bytesLess y x := by
 cases h1 : Op.bytesLess x y with
 | true =>
  cases h2 : Op.bytesLess y x with
  | false => rfl
  | true =>
   have := less_trans x y x h1 h2
   rw [less_irrefl] at this
   cases this
 | false =>
  cases h2 : Op.bytesLess y x with
  | true =>
   have hne : (x == y) = false := by
    cases h3 : x == y with
    | false => rfl
    | true =>
     rw [beq_iff_eq.1 h3, less_irrefl] at h2
     cases h2
   rw [hne]
   rfl
  | false =>
   rw [less_tri x y h1 h2]
   simp
theorem less_eq_other (x y : List UInt8) : (Op.bytesLess x y || x == y) = !Op.bytesLess y x := by
 rw [← less_other x y, Bool.not_not]
@[go_sem] theorem binOp_gtr (t : TypeId) (a b : ByteArray) : binOp .gtr t (.string a) (.string b) = pure (.bool (Op.bytesLess b.toList a.toList)) := by
 rw [← less_other]
 simp [binOp, Op.stringOp]
@[go_sem] theorem binOp_geq (t : TypeId) (a b : ByteArray) : binOp .geq t (.string a) (.string b) = pure (.bool !(Op.bytesLess a.toList b.toList)) := by
 simp [binOp, Op.stringOp]
@[go_sem] theorem binOp_leq (t : TypeId) (a b : ByteArray) : binOp .leq t (.string a) (.string b) = pure (.bool !(Op.bytesLess b.toList a.toList)) := by
 rw [← less_eq_other]
 simp [binOp, Op.stringOp]
end Go.Proofs.YtpccbmechgkogaaGreatDoor.Cmp
namespace Go.Proofs.YtpccbmechgkogaaGreatDoor.IdxG
open Go.RowKit
def idx {α : Type} (p : α → Bool) (l : List α) : Int := match l.findIdx? p with
 | some i => (i : Int)
 | none => -1
theorem idx_any {α : Type} (p : α → Bool) (l : List α) : decide (idx p l ≥ 0) = l.any p := by
 unfold idx
 cases h : l.findIdx? p with
 | none =>
  rw [List.findIdx?_eq_none_iff] at h
  have : l.any p = false := by
   rw [List.any_eq_false]
   intro x hx
   simpa using h x hx
  rw [this]
  decide
 | some i =>
  have := List.findIdx?_eq_some_iff_getElem.1 h
  obtain ⟨hi, hp, _⟩ := this
  have : l.any p = true := List.any_eq_true.2 ⟨_, List.getElem_mem hi, hp⟩
  rw [this]
  simp
theorem idx_hit {α : Type} (p : α → Bool) (l : List α) (k : Nat) (hk : k < l.length) (hp : p l[k] = true) (hn : ∀ j (h : j < l.length), j < k → p l[j] = false) : idx p l = (k : Int) := by
 unfold idx
 have : l.findIdx? p = some k := List.findIdx?_eq_some_iff_getElem.2 ⟨hk, hp, fun j hj => by simpa using hn j (by omega) hj⟩
 rw [this]
theorem idx_miss {α : Type} (p : α → Bool) (l : List α) (hn : ∀ j (h : j < l.length), p l[j] = false) : idx p l = -1 := by
 unfold idx
 have : l.findIdx? p = none := by
  rw [List.findIdx?_eq_none_iff]
  intro x hx
  obtain ⟨j, hj, rfl⟩ := List.getElem_of_mem hx
  exact hn j hj
 rw [this]
def IdxPost (w : World) (r : Int) (e : Ending) (w' : World) : Prop := e = .returned (.int .i64 r) ∧ Below w.heap.size w w'
end Go.Proofs.YtpccbmechgkogaaGreatDoor.IdxG
namespace Go.Proofs.YtpccbmechgkogaaGreatDoor.IxB
open Go.RowKit Go.Proofs.YtpccbmechgkogaaGreatDoor.P Go.Proofs.YtpccbmechgkogaaGreatDoorW.PrintWords Go.Proofs.YtpccbmechgkogaaGreatDoor.IdxG
abbrev T := S40
def Tells (g : Nat) (lb : Array Value) (p : T → Bool) (w : World) (l : List T) : Prop :=
 ∀ (W : World) (x : T) (A2 : Option Addr) (c2 : Nat) (A3 : Option Addr) (c3 : Nat), x ∈ l → Below w.heap.size w W → Kd.C k79 W A2 x.f2.length x.f2 → x.f2.length ≤ c2 → Kd.C k131 W A3 x.f3.length x.f3 → x.f3.length ≤ c3 →
  Calls Tryz.prog g (#[.agg #[.string x.f0, .int .i64 x.f1, .slice A2 x.f2.length c2, .slice A3 x.f3.length c3, .int .u64 x.f4]] ++ lb) W fun e w' => e = .returned (.bool (p x)) ∧ Below W.heap.size W w'
set_option maxRecDepth 100000 in
set_option maxHeartbeats 1600000 in
theorem index_any (g : Nat) (lb : Array Value) (eg : ∀ args w, (callFunc g args).run Tryz.prog w = .ok (.enter g args) w) (p : T → Bool) (A : Option Addr) (c : Nat) (l : List T) (w : World)
  (hr : Kd.C k40 w A l.length l) (hg : Tells g lb p w l) :
  Calls Tryz.prog 50 #[.slice A l.length c, .func (.func g) #[] lb] w (IdxPost w (idx p l)) := by
 have HR := Aside0.mk hr
 have HG := Aside0.mk hg
 have hm : l.length ≤ 9223372036854775807 := hr.2.1
 clear hr hg
 have hu := Tryz.underlying40
 go_enter Tryz.func50, Tryz.ntmps50
 go_wp2
 go_loopw [8] (fun i wr => ∃ k : Nat, k ≤ l.length ∧ i = .int .i64 k ∧ Aside0 (∀ j (h : j < l.length), j < k → p l[j] = false) ∧ Aside0 (Below w.heap.size w wr)) (fun i _ => l.length - (intOf i).toNat)
 case atStart => exact ⟨0, by omega, rfl, ⟨fun j _ h => absurd h (Nat.not_lt_zero _)⟩, ⟨Below.refl _ _⟩⟩
 case round =>
  obtain ⟨k, hk, rfl, HA, HB⟩ := hrel
  by_cases hlt : k < l.length
  ·obtain ⟨ad, A21, c21, A31, c31, e0, h0, h1, h2, h3, h4, hl2, hC2, hl3, hC3⟩ := at_T40 (Kd.C_below HR.out HB.out) (k : Int) (by omega) (by omega)
   have hx : rd_T40 l (k : Int) = l[k] := by unfold rd_T40; rw [Int.toNat_natCast, List.getD_eq_getElem?_getD, List.getElem?_eq_getElem hlt]; rfl
   rw [hx] at h0 h1 h2 h3 h4 hl2 hC2 hl3 hC3
   rw [Int.toNat_natCast] at h0 h1 h2 h3 h4
   cases e0
   have hcall := HG.out wr l[k] A21 c21 A31 c31 (List.getElem_mem hlt) HB.out hC2 hl2 hC3 hl3
   clear hl2 hC2 hl3 hC3
   have HX := Aside0.mk hx
   clear hx
   generalize hq : p l[k] = q at hcall
   have HQ := Aside0.mk hq
   clear hq
   cases q with
   | true =>
    go_wp2_with fail
    refine hcall.mono ?_
    rintro e w2 ⟨rfl, hb'⟩
    have HB2 := Aside0.mk hb'
    clear hb'
    go_wp2
    go_ret
    exact ⟨congrArg (fun z => Ending.returned (Value.int .i64 z)) (idx_hit p l k hlt HQ.out HA.out).symm, below_step HB.out HB2.out⟩
   | false =>
    go_wp2_with fail
    refine hcall.mono ?_
    rintro e w2 ⟨rfl, hb'⟩
    have HB2 := Aside0.mk hb'
    clear hb'
    go_wp2
    refine ⟨⟨k + 1, by omega, by go_num, ⟨fun j h hj => ?_⟩, ⟨below_step HB.out HB2.out⟩⟩, by simp [intOf]; omega⟩
    by_cases e : j = k
    ·subst e; exact HQ.out
    ·exact HA.out j h (by omega)
  ·have hk2 : k = l.length := by omega
   subst hk2
   go_wp2
   go_ret
   exact ⟨congrArg (fun z => Ending.returned (Value.int .i64 z)) (idx_miss p l (fun j h => HA.out j h h)).symm, HB.out⟩
end Go.Proofs.YtpccbmechgkogaaGreatDoor.IxB
namespace Go.Proofs.YtpccbmechgkogaaGreatDoor.IxE
open Go.RowKit Go.Proofs.YtpccbmechgkogaaGreatDoor.P Go.Proofs.YtpccbmechgkogaaGreatDoorW.PrintWords Go.Proofs.YtpccbmechgkogaaGreatDoor.IdxG
abbrev T := S79
def Tells (g : Nat) (lb : Array Value) (p : T → Bool) (w : World) (l : List T) : Prop :=
 ∀ (W : World) (x : T) (A1 : Option Addr) (c1 : Nat), x ∈ l → Below w.heap.size w W → Kd.C k63 W A1 x.f1.length x.f1 → x.f1.length ≤ c1 →
  Calls Tryz.prog g (#[.agg #[.string x.f0, .slice A1 x.f1.length c1]] ++ lb) W fun e w' => e = .returned (.bool (p x)) ∧ Below W.heap.size W w'
set_option maxRecDepth 100000 in
set_option maxHeartbeats 1600000 in
theorem index_any (g : Nat) (lb : Array Value) (eg : ∀ args w, (callFunc g args).run Tryz.prog w = .ok (.enter g args) w) (p : T → Bool) (A : Option Addr) (c : Nat) (l : List T) (w : World)
  (hr : Kd.C k79 w A l.length l) (hg : Tells g lb p w l) :
  Calls Tryz.prog 92 #[.slice A l.length c, .func (.func g) #[] lb] w (IdxPost w (idx p l)) := by
 have HR := Aside0.mk hr
 have HG := Aside0.mk hg
 have hm : l.length ≤ 9223372036854775807 := hr.2.1
 clear hr hg
 have hu := Tryz.underlying79
 go_enter Tryz.func92, Tryz.ntmps92
 go_wp2
 go_loopw [8] (fun i wr => ∃ k : Nat, k ≤ l.length ∧ i = .int .i64 k ∧ Aside0 (∀ j (h : j < l.length), j < k → p l[j] = false) ∧ Aside0 (Below w.heap.size w wr)) (fun i _ => l.length - (intOf i).toNat)
 case atStart => exact ⟨0, by omega, rfl, ⟨fun j _ h => absurd h (Nat.not_lt_zero _)⟩, ⟨Below.refl _ _⟩⟩
 case round =>
  obtain ⟨k, hk, rfl, HA, HB⟩ := hrel
  by_cases hlt : k < l.length
  ·obtain ⟨ad, A11, c11, e0, h0, h1, hl1, hC1⟩ := at_T79 (Kd.C_below HR.out HB.out) (k : Int) (by omega) (by omega)
   have hx : rd_T79 l (k : Int) = l[k] := by unfold rd_T79; rw [Int.toNat_natCast, List.getD_eq_getElem?_getD, List.getElem?_eq_getElem hlt]; rfl
   rw [hx] at h0 h1 hl1 hC1
   rw [Int.toNat_natCast] at h0 h1
   cases e0
   have hcall := HG.out wr l[k] A11 c11 (List.getElem_mem hlt) HB.out hC1 hl1
   clear hl1 hC1
   have HX := Aside0.mk hx
   clear hx
   generalize hq : p l[k] = q at hcall
   have HQ := Aside0.mk hq
   clear hq
   cases q with
   | true =>
    go_wp2_with fail
    refine hcall.mono ?_
    rintro e w2 ⟨rfl, hb'⟩
    have HB2 := Aside0.mk hb'
    clear hb'
    go_wp2
    go_ret
    exact ⟨congrArg (fun z => Ending.returned (Value.int .i64 z)) (idx_hit p l k hlt HQ.out HA.out).symm, below_step HB.out HB2.out⟩
   | false =>
    go_wp2_with fail
    refine hcall.mono ?_
    rintro e w2 ⟨rfl, hb'⟩
    have HB2 := Aside0.mk hb'
    clear hb'
    go_wp2
    refine ⟨⟨k + 1, by omega, by go_num, ⟨fun j h hj => ?_⟩, ⟨below_step HB.out HB2.out⟩⟩, by simp [intOf]; omega⟩
    by_cases e : j = k
    ·subst e; exact HQ.out
    ·exact HA.out j h (by omega)
  ·have hk2 : k = l.length := by omega
   subst hk2
   go_wp2
   go_ret
   exact ⟨congrArg (fun z => Ending.returned (Value.int .i64 z)) (idx_miss p l (fun j h => HA.out j h h)).symm, HB.out⟩
set_option maxRecDepth 100000 in
set_option maxHeartbeats 1600000 in
theorem contains_any (g : Nat) (lb : Array Value) (eg : ∀ args w, (callFunc g args).run Tryz.prog w = .ok (.enter g args) w) (p : T → Bool) (A : Option Addr) (c : Nat) (l : List T) (w : World)
  (hr : Kd.C k79 w A l.length l) (hg : Tells g lb p w l) :
  Calls Tryz.prog 121 #[.slice A l.length c, .func (.func g) #[] lb] w fun e w' => e = .returned (.bool (l.any p)) ∧ Below w.heap.size w w' := by
 have C := index_any g lb eg p A c l w hr hg
 rw [← idx_any]
 clear hr hg eg
 go_enter Tryz.func121, Tryz.ntmps121
 go_wp2_with fail
 refine C.mono ?_
 rintro e w1 ⟨rfl, hb⟩
 have HB := Aside0.mk hb
 clear hb C
 go_wp2
 go_ret
 exact ⟨rfl, HB.out⟩
end Go.Proofs.YtpccbmechgkogaaGreatDoor.IxE
namespace Go.Proofs.YtpccbmechgkogaaGreatDoor.IxV
open Go.RowKit Go.Proofs.YtpccbmechgkogaaGreatDoor.P Go.Proofs.YtpccbmechgkogaaGreatDoorW.PrintWords Go.Proofs.YtpccbmechgkogaaGreatDoor.IdxG
abbrev T := S63
def Tells (g : Nat) (lb : Array Value) (p : T → Bool) (w : World) (l : List T) : Prop :=
 ∀ (W : World) (x : T), x ∈ l → Below w.heap.size w W →
  Calls Tryz.prog g (#[.agg #[.int .u64 x.f0, .string x.f1, .bool x.f2, .int .i64 x.f3]] ++ lb) W fun e w' => e = .returned (.bool (p x)) ∧ Below W.heap.size W w'
set_option maxRecDepth 100000 in
set_option maxHeartbeats 1600000 in
theorem index_any (g : Nat) (lb : Array Value) (eg : ∀ args w, (callFunc g args).run Tryz.prog w = .ok (.enter g args) w) (p : T → Bool) (A : Option Addr) (c : Nat) (l : List T) (w : World)
  (hr : Kd.C k63 w A l.length l) (hg : Tells g lb p w l) :
  Calls Tryz.prog 163 #[.slice A l.length c, .func (.func g) #[] lb] w (IdxPost w (idx p l)) := by
 have HR := Aside0.mk hr
 have HG := Aside0.mk hg
 have hm : l.length ≤ 9223372036854775807 := hr.2.1
 clear hr hg
 have hu := Tryz.underlying63
 go_enter Tryz.func163, Tryz.ntmps163
 go_wp2
 go_loopw [8] (fun i wr => ∃ k : Nat, k ≤ l.length ∧ i = .int .i64 k ∧ Aside0 (∀ j (h : j < l.length), j < k → p l[j] = false) ∧ Aside0 (Below w.heap.size w wr)) (fun i _ => l.length - (intOf i).toNat)
 case atStart => exact ⟨0, by omega, rfl, ⟨fun j _ h => absurd h (Nat.not_lt_zero _)⟩, ⟨Below.refl _ _⟩⟩
 case round =>
  obtain ⟨k, hk, rfl, HA, HB⟩ := hrel
  by_cases hlt : k < l.length
  ·obtain ⟨ad, e0, h0, h1, h2, h3⟩ := at_T63 (Kd.C_below HR.out HB.out) (k : Int) (by omega) (by omega)
   have hx : rd_T63 l (k : Int) = l[k] := by unfold rd_T63; rw [Int.toNat_natCast, List.getD_eq_getElem?_getD, List.getElem?_eq_getElem hlt]; rfl
   rw [hx] at h0 h1 h2 h3
   rw [Int.toNat_natCast] at h0 h1 h2 h3
   cases e0
   have hcall := HG.out wr l[k] (List.getElem_mem hlt) HB.out
   have HX := Aside0.mk hx
   clear hx
   generalize hq : p l[k] = q at hcall
   have HQ := Aside0.mk hq
   clear hq
   cases q with
   | true =>
    go_wp2_with fail
    refine hcall.mono ?_
    rintro e w2 ⟨rfl, hb'⟩
    have HB2 := Aside0.mk hb'
    clear hb'
    go_wp2
    go_ret
    exact ⟨congrArg (fun z => Ending.returned (Value.int .i64 z)) (idx_hit p l k hlt HQ.out HA.out).symm, below_step HB.out HB2.out⟩
   | false =>
    go_wp2_with fail
    refine hcall.mono ?_
    rintro e w2 ⟨rfl, hb'⟩
    have HB2 := Aside0.mk hb'
    clear hb'
    go_wp2
    refine ⟨⟨k + 1, by omega, by go_num, ⟨fun j h hj => ?_⟩, ⟨below_step HB.out HB2.out⟩⟩, by simp [intOf]; omega⟩
    by_cases e : j = k
    ·subst e; exact HQ.out
    ·exact HA.out j h (by omega)
  ·have hk2 : k = l.length := by omega
   subst hk2
   go_wp2
   go_ret
   exact ⟨congrArg (fun z => Ending.returned (Value.int .i64 z)) (idx_miss p l (fun j h => HA.out j h h)).symm, HB.out⟩
set_option maxRecDepth 100000 in
set_option maxHeartbeats 1600000 in
theorem contains_any (g : Nat) (lb : Array Value) (eg : ∀ args w, (callFunc g args).run Tryz.prog w = .ok (.enter g args) w) (p : T → Bool) (A : Option Addr) (c : Nat) (l : List T) (w : World)
  (hr : Kd.C k63 w A l.length l) (hg : Tells g lb p w l) :
  Calls Tryz.prog 118 #[.slice A l.length c, .func (.func g) #[] lb] w fun e w' => e = .returned (.bool (l.any p)) ∧ Below w.heap.size w w' := by
 have C := index_any g lb eg p A c l w hr hg
 rw [← idx_any]
 clear hr hg eg
 go_enter Tryz.func118, Tryz.ntmps118
 go_wp2_with fail
 refine C.mono ?_
 rintro e w1 ⟨rfl, hb⟩
 have HB := Aside0.mk hb
 clear hb C
 go_wp2
 go_ret
 exact ⟨rfl, HB.out⟩
end Go.Proofs.YtpccbmechgkogaaGreatDoor.IxV
namespace Go.Proofs.YtpccbmechgkogaaGreatDoor.DpLate
open Go.RowKit Go.Proofs.YtpccbmechgkogaaGreatDoor.P Go.Proofs.YtpccbmechgkogaaGreatDoorW.PrintWords Go.Proofs.YtpccbmechgkogaaGreatDoor.IdxG
abbrev V := S63
abbrev E := S79
abbrev B := S40
def named (s : ByteArray) (x : B) : Bool := x.f0.toList == s.toList
set_option maxRecDepth 100000 in
set_option maxHeartbeats 800000 in
theorem placeC (s : ByteArray) (x : B) (A2 : Option Addr) (c2 : Nat) (A3 : Option Addr) (c3 : Nat) (b : Nat) (w : World) (hb : b < w.heap.size) (hk : w.cell? ⟨b, 0, none⟩ = some (.string s)) :
  Calls Tryz.prog 94 #[.agg #[.string x.f0, .int .i64 x.f1, .slice A2 x.f2.length c2, .slice A3 x.f3.length c3, .int .u64 x.f4], .pointer (some ⟨b, 0, none⟩)] w fun e w' => e = .returned (.bool (named s x)) ∧ Below w.heap.size w w' := by
 unfold named
 have hu := Tryz.underlying40
 have hk2 : ∀ o, (w.alloc o).cell? ⟨b, 0, none⟩ = some (.string s) := fun o => by rw [World.cell?_alloc_past _ _ _ hb]; exact hk
 go_enter Tryz.func94, Tryz.ntmps94
 go_wp2
 go_ret
 exact ⟨rfl, (Below.refl _ _).alloc (Nat.le_refl _) _⟩
set_option maxRecDepth 100000 in
set_option maxHeartbeats 800000 in
theorem place_any (now : Int) (A : Option Addr) (c : Nat) (l : List B) (s : ByteArray) (w : World) (hr : Kd.C k40 w A l.length l) :
  Calls Tryz.prog 49 #[.agg #[.int .i64 now, .slice A l.length c], .string s] w fun e w' => e = .returned (.int .i64 (idx (named s) l)) ∧ Below w.heap.size w w' := by
 have hmf : ∀ (fn : Fn) (first cap : Array Value) (w : World), (Instr.makeFunc fn first cap).run Tryz.prog w = .ok (.func fn first cap) w := fun _ _ _ _ => rfl
 have hu := Tryz.underlying25
 have C := fun (W : World) (hW : Below w.heap.size w W) (b : Nat) (hb : b < W.heap.size) (hk : W.cell? ⟨b, 0, none⟩ = some (.string s)) => IxB.index_any 94 #[.pointer (some ⟨b, 0, none⟩)] (fun args w => by rfl) (named s) A c l W (Kd.C_below hr hW)
  (fun W2 x A2 c2 A3 c3 _ hB _ _ _ _ => placeC s x A2 c2 A3 c3 b W2 (by have := hB.size; omega) (by rw [hB.cell (p := ⟨b, 0, none⟩) hb]; exact hk))
 clear hr
 go_enter Tryz.func49, Tryz.ntmps49
 go_wp2_with fail
 refine (C _ (below_alloc (below_alloc (Below.refl _ _) _) _) (w.heap.size + 1) (by simp) ?_).mono ?_
 ·simp
 rintro e w1 ⟨rfl, hb⟩
 have HB := Aside0.mk hb
 clear hb C
 go_wp2
 go_ret
 exact ⟨rfl, below_step (below_alloc (below_alloc (Below.refl _ _) _) _) HB.out⟩
def after (now : Int) (x : V) : Bool := decide (x.f3 > now)
def lateE (now : Int) (x : E) : Bool := x.f1.any (after now)
def lateB (now : Int) (x : B) : Bool := x.f2.any (lateE now)
set_option maxRecDepth 100000 in
set_option maxHeartbeats 800000 in
theorem lateCC (now : Int) (x : V) (b : Nat) (w : World) (hb : b < w.heap.size) (hk : w.cell? ⟨b, 0, none⟩ = some (.int .i64 now)) :
  Calls Tryz.prog 123 #[.agg #[.int .u64 x.f0, .string x.f1, .bool x.f2, .int .i64 x.f3], .pointer (some ⟨b, 0, none⟩)] w fun e w' => e = .returned (.bool (after now x)) ∧ Below w.heap.size w w' := by
 unfold after
 have hu := Tryz.underlying63
 have hk2 : ∀ o, (w.alloc o).cell? ⟨b, 0, none⟩ = some (.int .i64 now) := fun o => by rw [World.cell?_alloc_past _ _ _ hb]; exact hk
 go_enter Tryz.func123, Tryz.ntmps123
 go_wp2
 go_ret
 exact ⟨rfl, (Below.refl _ _).alloc (Nat.le_refl _) _⟩
set_option maxRecDepth 100000 in
set_option maxHeartbeats 800000 in
theorem lateC (now : Int) (x : E) (A1 : Option Addr) (c1 : Nat) (b : Nat) (w : World) (hr : Kd.C k63 w A1 x.f1.length x.f1) (hb : b < w.heap.size) (hk : w.cell? ⟨b, 0, none⟩ = some (.int .i64 now)) :
  Calls Tryz.prog 122 #[.agg #[.string x.f0, .slice A1 x.f1.length c1], .pointer (some ⟨b, 0, none⟩)] w fun e w' => e = .returned (.bool (lateE now x)) ∧ Below w.heap.size w w' := by
 unfold lateE
 have hmf : ∀ (fn : Fn) (first cap : Array Value) (w : World), (Instr.makeFunc fn first cap).run Tryz.prog w = .ok (.func fn first cap) w := fun _ _ _ _ => rfl
 have hu := Tryz.underlying79
 have C := fun (W : World) (hW : Below w.heap.size w W) => IxV.contains_any 123 #[.pointer (some ⟨b, 0, none⟩)] (fun args w => by rfl) (after now) A1 c1 x.f1 W (Kd.C_below hr hW)
  (fun W2 x _ hB => lateCC now x b W2 (by have := hB.size; have := hW.size; omega) (by rw [hB.cell (p := ⟨b, 0, none⟩) (by have := hW.size; exact Nat.lt_of_lt_of_le hb this), hW.cell (p := ⟨b, 0, none⟩) hb]; exact hk))
 clear hr
 go_enter Tryz.func122, Tryz.ntmps122
 go_wp2_with fail
 refine (C _ (below_alloc (Below.refl _ _) _)).mono ?_
 rintro e w1 ⟨rfl, hb⟩
 have HB := Aside0.mk hb
 clear hb C
 go_wp2
 go_ret
 exact ⟨rfl, below_step (below_alloc (Below.refl _ _) _) HB.out⟩
set_option maxRecDepth 100000 in
set_option maxHeartbeats 800000 in
theorem late_any (now : Int) (x : B) (A2 : Option Addr) (c2 : Nat) (A3 : Option Addr) (c3 : Nat) (w : World) (hr : Kd.C k79 w A2 x.f2.length x.f2) :
  Calls Tryz.prog 68 #[.agg #[.string x.f0, .int .i64 x.f1, .slice A2 x.f2.length c2, .slice A3 x.f3.length c3, .int .u64 x.f4], .int .i64 now] w fun e w' => e = .returned (.bool (lateB now x)) ∧ Below w.heap.size w w' := by
 unfold lateB
 have hmf : ∀ (fn : Fn) (first cap : Array Value) (w : World), (Instr.makeFunc fn first cap).run Tryz.prog w = .ok (.func fn first cap) w := fun _ _ _ _ => rfl
 have hu := Tryz.underlying40
 have C := fun (W : World) (hW : Below w.heap.size w W) (b : Nat) (hb : b < W.heap.size) (hk : W.cell? ⟨b, 0, none⟩ = some (.int .i64 now)) => IxE.contains_any 122 #[.pointer (some ⟨b, 0, none⟩)] (fun args w => by rfl) (lateE now) A2 c2 x.f2 W (Kd.C_below hr hW)
  (fun W2 x A1 c1 _ hB hC _ => lateC now x A1 c1 b W2 hC (by have := hB.size; omega) (by rw [hB.cell (p := ⟨b, 0, none⟩) hb]; exact hk))
 clear hr
 go_enter Tryz.func68, Tryz.ntmps68
 go_wp2_with fail
 refine (C _ (below_alloc (below_alloc (Below.refl _ _) _) _) (w.heap.size + 1) (by simp) ?_).mono ?_
 ·simp
 rintro e w1 ⟨rfl, hb⟩
 have HB := Aside0.mk hb
 clear hb C
 go_wp2
 go_ret
 exact ⟨rfl, below_step (below_alloc (below_alloc (Below.refl _ _) _) _) HB.out⟩
end Go.Proofs.YtpccbmechgkogaaGreatDoor.DpLate
